/- Texts of the proof, joined (5). -/
import Derived.Test.YthefmilamdchiaaGreatDoorA1
import Derived.Test.YthefmilamdchiaaGreatDoorA4
import Derived.Test.YthefmilamdchiaaGreatDoorA2
import Derived.Test.YthefmilamdchiaaGreatDoorA3
import Derived.Test.YthefmilamdchiaaGreatDoorA0
import Derived.IntWalk
set_option linter.unusedVariables false
set_option linter.unusedSimpArgs false
set_option linter.unusedSectionVars false
namespace Go.Proofs.YthefmilamdchiaaGreatDoor
section
set_option maxRecDepth 100000
set_option maxHeartbeats 4000000
open Go.RowKit
noncomputable section
def mY (b:Int) (c:LI) (d:LR) (e:LN) (f:Int):Option (ah×aQ):=some (((ah.mk b c d),(aQ.mk e f)))
def dq (g:Int) (e:LN) (f:Int) (b:Int) (c:LI) (d:LR):Option (Fl (Int×LN×Int×Int×LI×LR) (Int×LI×LR×LN×Int)):=some (.go (IntKind.i64.wrap (g - 1),e,f,b,c,d))
def mZ (g:Int) (h:Int) (i:LI) (j:LR) (k:Int) (e:LN) (f:Int) (l:LU) (m:Int) (n:LI) (o:LR) (p:LK) (q:LF) (r:LK):Option (Fl (Int×LN×Int×Int×LI×LR) (Int×LI×LR×LN×Int)):=cond ((k:Int) == 0) ((bI (aQ.mk e f) 30).bind fun c=>(pA vv (cJ.mk l (ah.mk m n o) p q r) c.1).bind fun b=>(mf (cJ.mk b.1.Rules (ah.mk b.1.Base.Revision b.1.Base.Inputs b.1.Base.Records) b.1.Goals b.1.Stack b.1.Ran)).bind fun d=>dq g c.2.L c.2.At d.Revision d.Inputs d.Records) (dq g e f h i j)
def gF (d:LU) (h:Int) (e:Int) (f:LI) (g:LR) (b:(Int×aQ)) (q:Bool):Option (Fl (Int×LN×Int×Int×LI×LR) (Int×LI×LR×LN×Int)):=cond q ((gt (aQ.mk b.2.L b.2.At) 2).bind fun j=>(lD (ah.mk e f g) j.1).bind fun k=>dq h j.2.L j.2.At k.1.Revision k.1.Inputs k.1.Records) (cond ((b.1:Int) == 3) ((mG (aQ.mk b.2.L b.2.At) d 2).bind fun l=>(nA d (ah.mk e f g) l.1).bind fun c=>mZ h e f g c.2 l.2.L l.2.At c.1.Rules c.1.Base.Revision c.1.Base.Inputs c.1.Base.Records c.1.Goals c.1.Stack c.1.Ran) (cond ((b.1:Int) == 4) ((bI (aQ.mk b.2.L b.2.At) 3).bind fun i=>cond ((i.1:Int) == 0) ((bI (aQ.mk i.2.L i.2.At) 200).bind fun m=>(nC (ah.mk e f g) m.1 ([])).bind fun n=>dq h m.2.L m.2.At n.1.Revision n.1.Inputs n.1.Records) (dq h i.2.L i.2.At e f g)) ((mG (aQ.mk b.2.L b.2.At) d 2).bind fun o=>(kP uu d (ah.mk e f g) o.1).bind fun p=>dq h o.2.L o.2.At p.1.Revision p.1.Inputs p.1.Records)))
def m3 (c:LU) (g:Int) (h:LN) (i:Int) (d:Int) (e:LI) (f:LR):Option (Fl (Int×LN×Int×Int×LI×LR) (Int×LI×LR×LN×Int)):=cond (decide ((0:Int) < g)) ((bI (aQ.mk h i) 8).bind fun b=>cond ((b.1:Int) == 0) (gF c g d e f b ((b.1:Int) == 0)) (cond ((b.1:Int) == 1) (gF c g d e f b ((b.1:Int) == 1)) (gF c g d e f b ((b.1:Int) == 2)))) (some (.out (d,e,f,h,i)))
def oq (f:aQ) (d:LU) (c:ah) (e:Int):Option (ah×aQ):=(bI f (IntKind.i64.wrap (e + 1))).bind fun b=>(loop (fun s:Int×LN×Int×Int×LI×LR=>m3 d s.1 s.2.1 s.2.2.1 s.2.2.2.1 s.2.2.2.2.1 s.2.2.2.2.2) (b.1,b.2.L,b.2.At,c.Revision,c.Inputs,c.Records)).bind fun r=>mY r.1 r.2.1 r.2.2.1 r.2.2.2.1 r.2.2.2.2
theorem xh (T:Nat→Prop) (W0:World) (hT:TW T W0) (x:aQ) (e:LU) (co:ah) (Y:Int) (v2:Value) (U:Value) (v4:Value) (v5:Value) (b:Nat) (gp:W0.heap[b]? = some (.cells (aU x v2).toArray 55 (0,0))) (hC:¬ T b) (i4:aB (aR.int .i64) (dT T [.box b (aU x v2) 55]) W0 v2 x.L) (i5:aB aq (dT T [.box b (aU x v2) 55]) W0 U e) (i9:aB ac (dT T [.box b (aU x v2) 55]) W0 v4 co.Inputs) (ib:aB aa (dT T [.box b (aU x v2) 55]) W0 v5 co.Records) (hLv:c6 (dT T [.box b (aU x v2) 55]) W0) (y:ah×aQ) (hM:oq x e co Y=some y):aY Tryz.prog (fun k=>k=b) 24 [pt b 0,U,.agg (aO co v4 v5).toArray,.int .i64 Y] W0 (fun v w'=>∃ (v6:Value) (v7:Value) (v8:Value),v = .agg (aO y.1 v6 v7).toArray∧aB ac (dT T [.box b (aU y.2 v8) 55]) w' v6 y.1.Inputs∧aB aa (dT T [.box b (aU y.2 v8) 55]) w' v7 y.1.Records∧w'.heap[b]? = some (.cells (aU y.2 v8).toArray 55 (0,0))∧aB (aR.int .i64) (dT T [.box b (aU y.2 v8) 55]) w' v8 y.2.L):=by
 refine pJ (c:=_) Tryz.func24 rfl T 80 Tryz.ntmps24 hT rfl gp hC fun a hS=>?_
 replace hS:=hS.fact bu hLv
 replace hS:=hS.fS i4
 replace hS:=hS.fS i5
 replace hS:=hS.fS i9
 replace hS:=hS.fS ib
 unfold oq at hM
 refine ai hS fun a hS=>?_
 refine kb hS fun p l1 a w hk hS=>?_
 refine ka hS jP fun q l2 a w hk hS=>?_
 refine ai hS fun a hS=>?_
 refine aI (J:=fun a w=>∃ (af:Int) (ag:LI) (ak:LR) (b9:LN) (bb:Int) (a5:Value) (a9:Value) (ab:Value),St W0 (fun k=>k=b) T 80 [(6,pt p 0),(8,pt q 0)] [.box p [.int .i64 af,a5,a9] 31,.box q [.int .i64 0,.slice none 0 0,.slice none 0 0] 31,.box b [ab,.int .i64 bb] 55] [aJ ac a5 ag,aJ aa a9 ak,aJ (aR.int .i64) ab b9,bu] a w∧mY af ag ak b9 bb=some y) ?_ ?_
 ·skip
  refine ai hS fun a hS=>?_
  obtain ⟨hD,h9,hM⟩:=bd hM
  refine wl rfl (bR hS lJ rfl rfl 2 rfl (bg _ _ (hS.drop 2).dlt x (IntKind.i64.wrap (Y + 1)) _ _ (hS.boxRow 2 rfl) (hS.notin 2 rfl) (aB.lent (i:=2) rfl (hS.get 3 rfl)) _ h9) fun _ w hR hk=>?_)
  obtain ⟨hE,he,hrow,dl⟩:=hR
  obtain rfl:=he.symm
  refine ⟨(aU hD.2 hE),hrow,fun a hS=>?_⟩
  replace hS:=hS.fS (aB.back (i:=2) rfl dl)
  refine ai hS fun a hS=>?_
  obtain ⟨r1,i3,hMo1⟩:=bd hM
  refine bB _ (fun s a w=>∃ (t:Int) (z:LN) (A:Int) (d:Int) (f:LI) (g:LR) (c1:Value) (n:Value) (o:Value),(t,z,A,d,f,g)=s∧St W0 (fun k=>k=b) T 80 [(0,pt b 0),(1,U),(6,pt p 0),(8,pt q 0),(9,.int .i64 t)] [.box b [c1,.int .i64 A] 55,.box p [.int .i64 d,n,o] 31,.box q [.int .i64 0,.slice none 0 0,.slice none 0 0] 31] [aJ aq U e,aJ (aR.int .i64) c1 z,aJ ac n f,aJ aa o g,bu] a w) i3 ⟨_,_,_,_,_,_,_,_,_,rfl,hS.mt [2,1,0] [3,0,2,1,5]⟩ ?_
  rintro s a w f1 ⟨t,z,A,d,f,g,c1,n,o,rfl,hS⟩ hM hf1
  have hM:m3 e t z A d f g=some f1:=hM
  unfold m3 at hM
  refine aw ?_
  refine ai hS fun a hS=>?_
  rcases cd hM with ⟨hm,hM⟩ | ⟨hm,hM⟩
  ·refine ai hS fun a hS=>?_
   refine aI (J:=fun a w=>∃ (bi:LN) (bl:Int) (ao:Int) (av:LI) (ax:LR) (c2:Value) (c3:Value) (c4:Value),St W0 (fun k=>k=b) T 80 [(0,pt b 0),(1,U),(6,pt p 0),(8,pt q 0),(9,.int .i64 t)] [.box b [c2,.int .i64 bl] 55,.box p [.int .i64 ao,c3,c4] 31,.box q [.int .i64 0,.slice none 0 0,.slice none 0 0] 31] [aJ aq U e,aJ (aR.int .i64) c2 bi,aJ ac c3 av,aJ aa c4 ax,bu] a w∧dq t bi bl ao av ax=some f1) ?_ ?_
   ·skip
    refine ai hS fun a hS=>?_
    obtain ⟨m,h1,hM⟩:=bd hM
    refine wl rfl (bR hS lJ rfl rfl 0 rfl (bg _ _ (hS.drop 0).dlt (aQ.mk z A) 8 _ _ (hS.boxRow 0 rfl) (hS.notin 0 rfl) (aB.lent (i:=0) rfl (hS.get 1 rfl)) _ h1) fun _ w hR hk=>?_)
    obtain ⟨c5,he,hrow,dn⟩:=hR
    obtain rfl:=he.symm
    refine ⟨(aU m.2 c5),hrow,fun a hS=>?_⟩
    replace hS:=hS.fS (aB.back (i:=0) rfl dn)
    refine ai hS fun a hS=>?_
    refine aI (J:=fun a w=>∃ (bs:Bool),St W0 (fun k=>k=b) T 80 [(0,pt b 0),(1,U),(6,pt p 0),(8,pt q 0),(9,.int .i64 t),(21,.int .i64 m.1),(32,.bool bs)] [.box b (aU m.2 c5) 55,.box p [.int .i64 d,n,o] 31,.box q [.int .i64 0,.slice none 0 0,.slice none 0 0] 31] [aJ aq U e,aJ (aR.int .i64) c5 m.2.L,aJ ac n f,aJ aa o g,bu] a w∧gF e t d f g m bs=some f1) ?_ ?_
    ·exact fz
    rintro a w ⟨bs,hS,hM⟩
    unfold gF at hM
    rcases cd hM with ⟨hn,hM⟩ | ⟨hn,hM⟩
    ·refine ai hS fun a hS=>?_
     refine dr [(2,.blk (some b)),(7,.blk (some p))] hS fun w hQ hS=>?_
     refine dy (l:=[.blk (some b)]) 0 (v:=.agg #[.int .i64 d,n,o]) rfl (by kernel_rfl) (by kernel_rfl) (by kernel_rfl) (by kernel_rfl) hQ hS (dV hS rfl fG 1 rfl (iv hS 1 rfl rfl 0 rfl rfl (by decide) bE) (us:=[.int .i64 d,n,o]) rfl rfl (fun h=>by cases h)) rfl rfl rfl fun a hS=>?_
     refine gE [1] hS fun a hS=>?_
     obtain ⟨g5,h2,hM⟩:=bd hM
     refine e1 2 (nq hS CU rfl rfl 0 rfl (lX _ _ (hS.drop 0).dlt (aQ.mk m.2.L m.2.At) 2 _ _ (hS.boxRow 0 rfl) (hS.notin 0 rfl) (aB.lent (i:=0) rfl (hS.get 1 rfl)) (bu.keep (hS.get 4 rfl) (Kt.refl _ _) (fun k hk=>.inl ((mz (i:=0) rfl k).1 hk))) _ h2) fun _ w hR hk=>?_)
     obtain ⟨c9,ay,hF,he,⟨d4,d0,ds⟩,hrow,e0⟩:=hR
     obtain rfl:=he.symm
     refine ⟨(aU g5.2 hF),[fc c9 ay],hrow,gS ⟨d4,by decide⟩ d0,s4 _,fun a hS=>⟨kp rfl hk iE,?_⟩⟩
     replace hS:=hS.fR (ds.keep (Kt.refl _ _) (Nw.back2 (i:=0) rfl [fc c9 ay] _))
     replace hS:=hS.fS (e0.sub (Nw.back2 (i:=0) rfl [fc c9 ay] _))
     replace hS:=hS.freeze (R:=aK) 0 rfl 1 rfl
     obtain ⟨lb,h3,hM⟩:=bd hM
     refine ec 3 hS GT (rH _ _ hS.dlt (hS.get 7 rfl) (ah.mk d f g) g5.1 _ _ _ (hS.get 5 rfl) (hS.get 6 rfl) (hS.get 0 rfl) _ h3) fun _ w hR a hk hA=>?_
     obtain ⟨lv,lV,he,e2,e3⟩:=hR
     obtain rfl:=he.symm
     have hS:=hA [] (fun r hr=>by cases hr) List.Pairwise.nil
     replace hS:=hS.fS (e2.sub (jk _))
     replace hS:=hS.fS (e3.sub (jk _))
     refine gE [4,5,6] hS fun a hS=>?_
     refine es 7 hS fun w hS=>?_
     refine eD ?_
     exact ⟨_,_,_,_,_,_,_,_,hS.mt [0,1,2] [5,3,1,0,9],hM⟩
    refine ai hS fun a hS=>?_
    rcases cd hM with ⟨ho,hM⟩ | ⟨ho,hM⟩
    ·refine ai hS fun a hS=>?_
     refine aI (J:=fun a w=>∃ (bq:Int) (W:LN) (X:Int) (Z:LU) (B:Int) (a0:LI) (a1:LR) (a2:LK) (a3:LF) (a4:LK) (V:Nat) (K:Value) (az:LV) (M:Value) (b0:LV) (O:Value) (b1:LV) (P:Value) (b2:LV) (Q:Value) (b3:LV) (S:Value) (b4:LV) (ca:Value),St W0 (fun k=>k=b) T 80 [(0,pt b 0),(1,U),(6,pt p 0),(8,pt q 0),(9,.int .i64 t),(10,pt V 0),(11,.int .i64 bq)] [.box b [ca,.int .i64 X] 55,.box p [.int .i64 d,n,o] 31,.box q [.int .i64 0,.slice none 0 0,.slice none 0 0] 31,bJ K az,aP M b0,aE O b1,au P b2,c8 Q b3,au S b4,.box V [K,.int .i64 B,M,O,P,Q,S] 88] [aJ aq U e,aJ (aR.int .i64) ca W,aJ ac n f,aJ aa o g,am aq az Z,am ac b0 a0,am aa b1 a1,am ad b2 a2,am an b3 a3,am ad b4 a4,bu] a w∧mZ t d f g bq W X Z B a0 a1 a2 a3 a4=some f1) ?_ ?_
     ·skip
      obtain ⟨N181,gi⟩:∃ N,N=w.heap.size:=⟨_,rfl⟩
      replace hS:=hS.fact (Ak N181) (Nat.le_of_eq gi)
      refine dr [(4,.blk (some b)),(5,.bks []),(10,.new N181)] hS fun w hQ hS=>?_
      refine gE [0] hS fun a hS=>?_
      refine dy (l:=[.blk (some b)]) 1 (v:=.agg #[.int .i64 d,n,o]) rfl (by kernel_rfl) (by kernel_rfl) (by kernel_rfl) (by kernel_rfl) hQ hS (dV hS rfl fG 1 rfl (iv hS 1 rfl rfl 0 rfl rfl (by decide) bE) (us:=[.int .i64 d,n,o]) rfl rfl (fun h=>by cases h)) rfl rfl rfl fun a hS=>?_
      refine gE [2,3] hS fun a hS=>?_
      obtain ⟨I,cs,hM⟩:=bd hM
      refine dU (i:=4) (j:=9) rfl rfl (by kernel_rfl) rfl rfl ?_ ?_
      ·skip
       skip
       refine id (nq hS EP rfl rfl 0 rfl (pQ _ _ (hS.drop 0).dlt (aQ.mk m.2.L m.2.At) e 2 _ _ _ (hS.boxRow 0 rfl) (hS.notin 0 rfl) (aB.lent (i:=0) rfl (hS.get 2 rfl)) (aB.lent (i:=0) rfl (hS.get 1 rfl)) (bu.keep (hS.get 5 rfl) (Kt.refl _ _) (fun k hk=>.inl ((mz (i:=0) rfl k).1 hk))) _ cs) fun _ w hR hk=>?_)
       obtain ⟨cb,b5,hG,he,⟨d6,d1,e4⟩,hrow,e5⟩:=hR
       obtain rfl:=he.symm
       refine ⟨(aU I.2 hG),[au cb b5],hrow,gS ⟨d6,by decide⟩ d1,s4 _,fun a hS=>⟨kp rfl hk iE,?_⟩⟩
       replace hS:=hS.fR (e4.keep (Kt.refl _ _) (Nw.back2 (i:=0) rfl [au cb b5] _))
       replace hS:=hS.fS (e5.sub (Nw.back2 (i:=0) rfl [au cb b5] _))
       replace hS:=hS.freeze (R:=ad) 0 rfl 1 rfl
       obtain ⟨le,cv,hM⟩:=bd hM
       refine dU (i:=5) (j:=9) rfl rfl (by kernel_rfl) rfl rfl ?_ ?_
       ·skip
        skip
        replace hS:=hS.re [] [0,1,2]
        refine id (cF hS EO rfl rfl (o8 _ _ hS.dltD e (ah.mk d f g) I.1 _ _ _ _ hS.dok (hS.getD 4 rfl) (hS.getD 6 rfl) (hS.getD 7 rfl) (hS.getD 0 rfl) (hS.getD 8 rfl) _ cv) fun _ w hR a hk hA=>⟨kp rfl hk ta,?_⟩)
        obtain ⟨m0,jc,m1,js,m2,k0,md,k1,ms,k2,mv,k3,he,e8,ea,ed,el,eq,er,hp⟩:=hR
        obtain rfl:=he.symm
        have hS:=hA _ hp
        replace hS:=hS.fR (e8.keep (Kt.refl _ _) (ap _))
        replace hS:=hS.fR (ea.keep (Kt.refl _ _) (ap _))
        replace hS:=hS.fR (ed.keep (Kt.refl _ _) (ap _))
        replace hS:=hS.fR (el.keep (Kt.refl _ _) (ap _))
        replace hS:=hS.fR (eq.keep (Kt.refl _ _) (ap _))
        replace hS:=hS.fR (er.keep (Kt.refl _ _) (ap _))
        refine gE [6,7,8] hS fun a hS=>?_
        have hq:=(hS.get 9 rfl:N181≤w.heap.size)
        refine e1 9 (cE hS vA rfl fun hb hs a w hk hS=>⟨fx (hk),?_⟩)
        refine cN 10 (.blk (some hb)) _ (by kernel_rfl) (my (Nat.le_trans hq hs)) ?_
        refine es 10 hS fun w hS=>?_
        refine gE [11] hS fun a hS=>?_
        refine eD ?_
        exact ⟨_,_,_,_,_,_,_,_,_,_,_,_,_,_,_,_,_,_,_,_,_,_,_,_,hS.mt [7,8,9,1,2,3,4,5,6,0] [10,7,12,13,5,4,3,2,1,0,14],hM⟩
       skip
       have ht:=(hS.get 3 rfl:N181≤w.heap.size)
       refine id (cE hS vA rfl fun hc hu a w hk hS=>⟨fx (hk),?_⟩)
       refine cN 10 (.blk (some hc)) _ (by kernel_rfl) (my (Nat.le_trans ht hu)) ?_
       replace hS:=hS.re [] [0,1,2,3]
       refine e1 5 (cF hS EO rfl rfl (o8 _ _ hS.dltD e (ah.mk d f g) I.1 _ _ _ _ hS.dok (hS.getD 4 rfl) (hS.getD 6 rfl) (hS.getD 7 rfl) (hS.getD 0 rfl) (hS.getD 8 rfl) _ cv) fun _ w hR a hk hA=>⟨kp rfl hk ta,?_⟩)
       obtain ⟨hH,hf,hI,hg,hK,hh,hN,hi,hO,hj,hP,hl,he,C,D,E,F,G,H,bt⟩:=hR
       obtain rfl:=he.symm
       have hS:=hA _ bt
       replace hS:=hS.fR (C.keep (Kt.refl _ _) (ap _))
       replace hS:=hS.fR (D.keep (Kt.refl _ _) (ap _))
       replace hS:=hS.fR (E.keep (Kt.refl _ _) (ap _))
       replace hS:=hS.fR (F.keep (Kt.refl _ _) (ap _))
       replace hS:=hS.fR (G.keep (Kt.refl _ _) (ap _))
       replace hS:=hS.fR (H.keep (Kt.refl _ _) (ap _))
       refine gE [6,7,8] hS fun a hS=>?_
       refine es 10 hS fun w hS=>?_
       refine gE [11] hS fun a hS=>?_
       refine eD ?_
       exact ⟨_,_,_,_,_,_,_,_,_,_,_,_,_,_,_,_,_,_,_,_,_,_,_,_,hS.mt [7,8,9,0,1,2,3,4,5,6] [10,7,12,13,5,4,3,2,1,0,14],hM⟩
      skip
      have hv:=(hS.get 0 rfl:N181≤w.heap.size)
      refine id (cE hS vA rfl fun hd hw a w hk hS=>⟨fx (hk),?_⟩)
      refine cN 10 (.blk (some hd)) _ (by kernel_rfl) (my (Nat.le_trans hv hw)) ?_
      refine e1 4 (nq hS EP rfl rfl 1 rfl (pQ _ _ (hS.drop 1).dlt (aQ.mk m.2.L m.2.At) e 2 _ _ _ (hS.boxRow 1 rfl) (hS.notin 1 rfl) (aB.lent (i:=1) rfl (hS.get 2 rfl)) (aB.lent (i:=1) rfl (hS.get 1 rfl)) (bu.keep (hS.get 5 rfl) (Kt.refl _ _) (fun k hk=>.inl ((mz (i:=1) rfl k).1 hk))) _ cs) fun _ w hR hk=>?_)
      obtain ⟨ck,b6,hV,he,⟨dc,d2,et⟩,hrow,ex⟩:=hR
      obtain rfl:=he.symm
      refine ⟨(aU I.2 hV),[au ck b6],hrow,gS ⟨dc,by decide⟩ d2,s4 _,fun a hS=>⟨kp rfl hk iE,?_⟩⟩
      replace hS:=hS.fR (et.keep (Kt.refl _ _) (Nw.back2 (i:=1) rfl [au ck b6] _))
      replace hS:=hS.fS (ex.sub (Nw.back2 (i:=1) rfl [au ck b6] _))
      replace hS:=hS.freeze (R:=ad) 0 rfl 1 rfl
      obtain ⟨lt,ha,hM⟩:=bd hM
      replace hS:=hS.re [] [0,1,2,3]
      refine e1 5 (cF hS EO rfl rfl (o8 _ _ hS.dltD e (ah.mk d f g) I.1 _ _ _ _ hS.dok (hS.getD 4 rfl) (hS.getD 6 rfl) (hS.getD 7 rfl) (hS.getD 0 rfl) (hS.getD 8 rfl) _ ha) fun _ w hR a hk hA=>⟨kp rfl hk ta,?_⟩)
      obtain ⟨hH,hf,hI,hg,hK,hh,hN,hi,hO,hj,hP,hl,he,C,D,E,F,G,H,bt⟩:=hR
      obtain rfl:=he.symm
      have hS:=hA _ bt
      replace hS:=hS.fR (C.keep (Kt.refl _ _) (ap _))
      replace hS:=hS.fR (D.keep (Kt.refl _ _) (ap _))
      replace hS:=hS.fR (E.keep (Kt.refl _ _) (ap _))
      replace hS:=hS.fR (F.keep (Kt.refl _ _) (ap _))
      replace hS:=hS.fR (G.keep (Kt.refl _ _) (ap _))
      replace hS:=hS.fR (H.keep (Kt.refl _ _) (ap _))
      refine gE [6,7,8] hS fun a hS=>?_
      refine es 10 hS fun w hS=>?_
      refine gE [11] hS fun a hS=>?_
      refine eD ?_
      exact ⟨_,_,_,_,_,_,_,_,_,_,_,_,_,_,_,_,_,_,_,_,_,_,_,_,hS.mt [7,8,9,0,1,2,3,4,5,6] [10,7,12,13,5,4,3,2,1,0,14],hM⟩
     rintro a w ⟨bq,W,X,Z,B,a0,a1,a2,a3,a4,V,K,az,M,b0,O,b1,P,b2,Q,b3,S,b4,ca,hS,hM⟩
     unfold mZ at hM
     refine ai hS fun a hS=>?_
     rcases cd hM with ⟨hx,hM⟩ | ⟨hx,hM⟩
     ·refine ai hS fun a hS=>?_
      refine aw ?_
      refine dr [(2,.blk (some b)),(8,.blk (some V))] hS fun w hQ hS=>?_
      refine dy (l:=[.blk (some b)]) 0 (v:=.agg #[K,.int .i64 B,M,O,P,Q,S]) rfl (by kernel_rfl) (by kernel_rfl) (by kernel_rfl) (by kernel_rfl) hQ hS (dV hS rfl tB 9 rfl (iv hS 9 rfl rfl 0 rfl rfl (by decide) bE) (us:=[K,.int .i64 B,M,O,P,Q,S]) rfl rfl (fun h=>by cases h)) rfl rfl rfl fun a hS=>?_
      refine gE [1] hS fun a hS=>?_
      obtain ⟨g4,gs,hM⟩:=bd hM
      refine e1 2 (bR hS lJ rfl rfl 0 rfl (bg _ _ (hS.drop 0).dlt (aQ.mk W X) 30 _ _ (hS.boxRow 0 rfl) (hS.notin 0 rfl) (aB.lent (i:=0) rfl (hS.get 1 rfl)) _ gs) fun _ w hR hk=>?_)
      obtain ⟨hW,he,hrow,ey⟩:=hR
      obtain rfl:=he.symm
      refine ⟨(aU g4.2 hW),hrow,fun a hS=>⟨kp rfl hk iE,?_⟩⟩
      replace hS:=hS.fS (aB.back (i:=0) rfl ey)
      replace hS:=hS.freeze (R:=aq) 3 rfl 5 rfl
      replace hS:=hS.freeze (R:=ac) 3 rfl 7 rfl
      replace hS:=hS.freeze (R:=aa) 3 rfl 9 rfl
      replace hS:=hS.freeze (R:=ad) 3 rfl 11 rfl
      replace hS:=hS.freeze (R:=an) 3 rfl 13 rfl
      replace hS:=hS.freeze (R:=ad) 3 rfl 15 rfl
      obtain ⟨u,gu,hM⟩:=bd hM
      refine ec 3 hS If (yl _ _ hS.dlt (hS.get 17 rfl) vv Je (cJ.mk Z (ah.mk B a0 a1) a2 a3 a4) g4.1 _ _ _ _ _ _ (hS.get 5 rfl) (hS.get 4 rfl) (hS.get 3 rfl) (hS.get 2 rfl) (hS.get 1 rfl) (hS.get 0 rfl) _ gu) fun _ w hR a hk hA=>?_
      obtain ⟨n0,n1,n2,nd,ng,nl,he,ez,eT,eX,f2,f3,f4⟩:=hR
      obtain rfl:=he.symm
      have hS:=hA [] (fun r hr=>by cases hr) List.Pairwise.nil
      replace hS:=hS.fS (ez.sub (jk _))
      replace hS:=hS.fS (eT.sub (jk _))
      replace hS:=hS.fS (eX.sub (jk _))
      replace hS:=hS.fS (f2.sub (jk _))
      replace hS:=hS.fS (f3.sub (jk _))
      replace hS:=hS.fS (f4.sub (jk _))
      refine gE [4,5,6,7] hS fun a hS=>?_
      refine es 8 hS fun w hS=>?_
      refine eD ?_
      refine ai hS fun a hS=>?_
      obtain ⟨la,h0,hM⟩:=bd hM
      refine kc hS Ig (u9 _ _ hS.dlt (cJ.mk u.1.Rules (ah.mk u.1.Base.Revision u.1.Base.Inputs u.1.Base.Records) u.1.Goals u.1.Stack u.1.Ran) _ _ _ _ _ _ (hS.get 5 rfl) (hS.get 4 rfl) (hS.get 3 rfl) (hS.get 2 rfl) (hS.get 1 rfl) (hS.get 0 rfl) _ h0) fun _ w hR a hk hA=>?_
      obtain ⟨nm,k4,no,ks,he,f5,f6,i2⟩:=hR
      obtain rfl:=he.symm
      have hS:=sZ hA f5 f6 i2
      refine go hS fun a w hS=>?_
      replace hS:=hS.freeze (R:=ac) 0 rfl 1 rfl
      replace hS:=hS.freeze (R:=aa) 0 rfl 1 rfl
      exact ⟨_,_,_,_,_,_,_,_,hS.mt [0,1,2] [17,16,1,0,27],hM⟩
     exact fz
    refine ai hS fun a hS=>?_
    rcases cd hM with ⟨hy,hM⟩ | ⟨hy,hM⟩
    ·refine ai hS fun a hS=>?_
     obtain ⟨c0,h4,hM⟩:=bd hM
     refine wl rfl (bR hS lJ rfl rfl 0 rfl (bg _ _ (hS.drop 0).dlt (aQ.mk m.2.L m.2.At) 3 _ _ (hS.boxRow 0 rfl) (hS.notin 0 rfl) (aB.lent (i:=0) rfl (hS.get 1 rfl)) _ h4) fun _ w hR hk=>?_)
     obtain ⟨hX,he,hrow,fd⟩:=hR
     obtain rfl:=he.symm
     refine ⟨(aU c0.2 hX),hrow,fun a hS=>?_⟩
     replace hS:=hS.fS (aB.back (i:=0) rfl fd)
     refine ai hS fun a hS=>?_
     rcases cd hM with ⟨hz,hM⟩ | ⟨hz,hM⟩
     ·refine ai hS fun a hS=>?_
      refine dr [(2,.blk (some b)),(3,.bks []),(8,.blk (some p))] hS fun w hQ hS=>?_
      refine dy (l:=[.blk (some b)]) 0 (v:=.agg #[.int .i64 d,n,o]) rfl (by kernel_rfl) (by kernel_rfl) (by kernel_rfl) (by kernel_rfl) hQ hS (dV hS rfl fG 1 rfl (iv hS 1 rfl rfl 0 rfl rfl (by decide) bE) (us:=[.int .i64 d,n,o]) rfl rfl (fun h=>by cases h)) rfl rfl rfl fun a hS=>?_
      refine gE [1] hS fun a hS=>?_
      obtain ⟨g6,h5,hM⟩:=bd hM
      refine e1 2 (bR hS lJ rfl rfl 0 rfl (bg _ _ (hS.drop 0).dlt (aQ.mk c0.2.L c0.2.At) 200 _ _ (hS.boxRow 0 rfl) (hS.notin 0 rfl) (aB.lent (i:=0) rfl (hS.get 0 rfl)) _ h5) fun _ w hR hk=>?_)
      obtain ⟨hY,he,hrow,fl⟩:=hR
      obtain rfl:=he.symm
      refine ⟨(aU g6.2 hY),hrow,fun a hS=>⟨kp rfl hk iE,?_⟩⟩
      replace hS:=hS.fS (aB.back (i:=0) rfl fl)
      replace hS:=hS.fact (aJ ad (.slice none 0 0) []) (aB.nil_ _ _ _)
      obtain ⟨ll,h6,hM⟩:=bd hM
      replace hS:=hS.re [] [0,1,2]
      refine e1 3 (cF hS Ih rfl rfl (vO _ _ hS.dltD (ah.mk d f g) g6.1 ([]) _ _ _ hS.dok (hS.getD 5 rfl) (hS.getD 6 rfl) (hS.getD 0 rfl) (hS.getD 7 rfl) _ h6) fun _ w hR a hk hA=>⟨kp rfl hk ta,?_⟩)
      obtain ⟨np,kt,of,kv,oi,kx,he,fn,fr,fs,hB⟩:=hR
      obtain rfl:=he.symm
      have hS:=hA _ hB
      replace hS:=hS.fR (fn.keep (Kt.refl _ _) (ap _))
      replace hS:=hS.fR (fr.keep (Kt.refl _ _) (ap _))
      replace hS:=hS.fR (fs.keep (Kt.refl _ _) (ap _))
      refine gE [4,5,6,7] hS fun a hS=>?_
      refine es 8 hS fun w hS=>?_
      refine eD ?_
      replace hS:=hS.freeze (R:=ac) 0 rfl 2 rfl
      replace hS:=hS.freeze (R:=aa) 0 rfl 2 rfl
      exact ⟨_,_,_,_,_,_,_,_,hS.mt [1,2,3] [8,6,1,0,12],hM⟩
     exact fz
    refine ai hS fun a hS=>?_
    refine dr [(4,.blk (some b)),(10,.blk (some p))] hS fun w hQ hS=>?_
    refine gE [0] hS fun a hS=>?_
    refine dy (l:=[.blk (some b)]) 1 (v:=.agg #[.int .i64 d,n,o]) rfl (by kernel_rfl) (by kernel_rfl) (by kernel_rfl) (by kernel_rfl) hQ hS (dV hS rfl fG 1 rfl (iv hS 1 rfl rfl 0 rfl rfl (by decide) bE) (us:=[.int .i64 d,n,o]) rfl rfl (fun h=>by cases h)) rfl rfl rfl fun a hS=>?_
    refine gE [2,3] hS fun a hS=>?_
    obtain ⟨g7,h7,hM⟩:=bd hM
    refine e1 4 (nq hS EP rfl rfl 0 rfl (pQ _ _ (hS.drop 0).dlt (aQ.mk m.2.L m.2.At) e 2 _ _ _ (hS.boxRow 0 rfl) (hS.notin 0 rfl) (aB.lent (i:=0) rfl (hS.get 1 rfl)) (aB.lent (i:=0) rfl (hS.get 0 rfl)) (bu.keep (hS.get 4 rfl) (Kt.refl _ _) (fun k hk=>.inl ((mz (i:=0) rfl k).1 hk))) _ h7) fun _ w hR hk=>?_)
    obtain ⟨cl,b8,i0,he,⟨di,d3,fM⟩,hrow,g0⟩:=hR
    obtain rfl:=he.symm
    refine ⟨(aU g7.2 i0),[au cl b8],hrow,gS ⟨di,by decide⟩ d3,s4 _,fun a hS=>⟨kp rfl hk iE,?_⟩⟩
    replace hS:=hS.fR (fM.keep (Kt.refl _ _) (Nw.back2 (i:=0) rfl [au cl b8] _))
    replace hS:=hS.fS (g0.sub (Nw.back2 (i:=0) rfl [au cl b8] _))
    replace hS:=hS.freeze (R:=ad) 0 rfl 1 rfl
    obtain ⟨ls,h8,hM⟩:=bd hM
    refine ec 5 hS Ii (tX _ _ hS.dlt (hS.get 7 rfl) uu Jv e (ah.mk d f g) g7.1 _ _ _ _ (hS.get 3 rfl) (hS.get 5 rfl) (hS.get 6 rfl) (hS.get 0 rfl) _ h8) fun _ w hR a hk hA=>?_
    obtain ⟨oj,ok,op,l0,he,g1,g2,g3⟩:=hR
    obtain rfl:=he.symm
    have hS:=pd hA g3
    replace hS:=hS.fS (g1.sub (jk _))
    replace hS:=hS.fS (g2.sub (jk _))
    refine gE [6,7,8,9] hS fun a hS=>?_
    refine es 10 hS fun w hS=>?_
    refine eD ?_
    exact ⟨_,_,_,_,_,_,_,_,hS.mt [1,2,3] [6,4,1,0,10],hM⟩
   rintro a w ⟨bi,bl,ao,av,ax,c2,c3,c4,hS,hM⟩
   unfold dq at hM
   exact fz
  refine ai hS fun a hS=>?_
  cases hM
  have hr:=hf1 _ rfl
  subst hr
  have hM:mY d f g z A=some y:=hMo1
  exact ⟨_,_,_,_,_,_,_,_,hS.mt [1,2,0] [2,3,1,4],hM⟩
 rintro a w ⟨af,ag,ak,b9,bb,a5,a9,ab,hS,hM⟩
 unfold mY at hM
 refine go hS fun a w hS=>?_
 cases hM
 refine aF hS rfl (rC 1 hS) ?_
 exact ⟨a5,a9,ab,rfl,(aB.up ⟨.inr (List.mem_of_getElem? (i:=2) rfl),trivial⟩ (hS.get 0 rfl)),(aB.up ⟨.inr (List.mem_of_getElem? (i:=2) rfl),trivial⟩ (hS.get 1 rfl)),hS.boxRow 2 rfl,(aB.up ⟨.inr (List.mem_of_getElem? (i:=2) rfl),trivial⟩ (hS.get 2 rfl))⟩
def lx (g:aQ) (f:Int):Option (LU×ah×aQ):=(ou g).bind fun c=>(gt (aQ.mk c.2.L c.2.At) 4).bind fun d=>(lD (ah.mk 0 ([]) ([])) d.1).bind fun e=>(oq (aQ.mk d.2.L d.2.At) c.1 (ah.mk e.1.Revision e.1.Inputs e.1.Records) f).bind fun b=>some ((c.1,(ah.mk b.1.Revision b.1.Inputs b.1.Records),(aQ.mk b.2.L b.2.At)))
theorem oR (T:Nat→Prop) (W0:World) (hT:TW T W0) (d:aQ) (e:Int) (O:Value) (b:Nat) (I:W0.heap[b]? = some (.cells (aU d O).toArray 55 (0,0))) (P:¬ T b) (X:aB (aR.int .i64) (dT T [.box b (aU d O) 55]) W0 O d.L) (hLv:c6 (dT T [.box b (aU d O) 55]) W0) (y:LU×ah×aQ) (hM:lx d e=some y):aY Tryz.prog (fun k=>k=b) 10 [pt b 0,.int .i64 e] W0 (fun v w'=>∃ (Y:Value) (Z:Value) (v5:Value) (p:Value),v = .tuple #[Y,.agg (aO y.2.1 Z v5).toArray]∧aB aq (dT T [.box b (aU y.2.2 p) 55]) w' Y y.1∧aB ac (dT T [.box b (aU y.2.2 p) 55]) w' Z y.2.1.Inputs∧aB aa (dT T [.box b (aU y.2.2 p) 55]) w' v5 y.2.1.Records∧w'.heap[b]? = some (.cells (aU y.2.2 p).toArray 55 (0,0))∧aB (aR.int .i64) (dT T [.box b (aU y.2.2 p) 55]) w' p y.2.2.L):=by
 refine pJ (c:=_) Tryz.func10 rfl T 24 Tryz.ntmps10 hT rfl I P fun a hS=>?_
 replace hS:=hS.fact bu hLv
 replace hS:=hS.fS X
 unfold lx at hM
 refine ai hS fun a hS=>?_
 refine ka hS jP fun a1 a3 a w hk hS=>?_
 refine ai hS fun a hS=>?_
 obtain ⟨f,J,hM⟩:=bd hM
 refine wl rfl (nq hS H4 rfl rfl 1 rfl (xi _ _ (hS.drop 1).dlt d _ _ (hS.boxRow 1 rfl) (hS.notin 1 rfl) (aB.lent (i:=1) rfl (hS.get 0 rfl)) _ J) fun _ w hR hk=>?_)
 obtain ⟨j,l,S,he,⟨t,q,x⟩,hrow,z⟩:=hR
 obtain rfl:=he.symm
 refine ⟨(aU f.2 S),[bJ j l],hrow,gS ⟨t,by decide⟩ q,s4 _,fun a hS=>?_⟩
 replace hS:=hS.fR (x.keep (Kt.refl _ _) (Nw.back2 (i:=1) rfl [bJ j l] _))
 replace hS:=hS.fS (z.sub (Nw.back2 (i:=1) rfl [bJ j l] _))
 refine ai hS fun a hS=>?_
 refine qy hS (br (ps:=[]) hS B5 jP rfl (us:=[]) trivial (ws:=[.int .i64 0,.slice none 0 0,.slice none 0 0]) rfl) fun a hS=>?_
 refine ai hS fun a hS=>?_
 obtain ⟨g,K,hM⟩:=bd hM
 refine wl rfl (nq hS CU rfl rfl 2 rfl (lX _ _ (hS.drop 2).dlt (aQ.mk f.2.L f.2.At) 4 _ _ (hS.boxRow 2 rfl) (hS.notin 2 rfl) (aB.lent (i:=2) rfl (hS.get 0 rfl)) (bu.keep (hS.get 3 rfl) (Kt.refl _ _) (fun k hk=>.inl ((mz (i:=2) rfl k).1 hk))) _ K) fun _ w hR hk=>?_)
 obtain ⟨o,m,U,he,⟨u,s,A⟩,hrow,B⟩:=hR
 obtain rfl:=he.symm
 refine ⟨(aU g.2 U),[fc o m],hrow,gS ⟨u,by decide⟩ s,s4 _,fun a hS=>?_⟩
 replace hS:=hS.fR (A.keep (Kt.refl _ _) (Nw.back2 (i:=2) rfl [fc o m] _))
 replace hS:=hS.fS (B.sub (Nw.back2 (i:=2) rfl [fc o m] _))
 replace hS:=hS.fact (aJ ac (.slice none 0 0) []) (aB.nil_ _ _ _)
 replace hS:=hS.fact (aJ aa (.slice none 0 0) []) (aB.nil_ _ _ _)
 replace hS:=hS.freeze (R:=aK) 0 rfl 3 rfl
 obtain ⟨n,M,hM⟩:=bd hM
 refine kc hS GT (rH _ _ hS.dlt (hS.get 8 rfl) (ah.mk 0 ([]) ([])) g.1 _ _ _ (hS.get 2 rfl) (hS.get 1 rfl) (hS.get 0 rfl) _ M) fun _ w hR a hk hA=>?_
 obtain ⟨a5,a9,he,C,D⟩:=hR
 obtain rfl:=he.symm
 have hS:=hA [] (fun r hr=>by cases hr) List.Pairwise.nil
 replace hS:=hS.fS (C.sub (jk _))
 replace hS:=hS.fS (D.sub (jk _))
 refine ai hS fun a hS=>?_
 refine ka hS jP fun a2 a4 a w hk hS=>?_
 refine go hS fun a w hS=>?_
 replace hS:=hS.freeze (R:=aq) 1 rfl 8 rfl
 obtain ⟨Q,N,hM⟩:=bd hM
 refine wl rfl (bR hS H5 rfl rfl 2 rfl (xh _ _ (hS.drop 2).dlt (aQ.mk g.2.L g.2.At) f.1 (ah.mk n.1.Revision n.1.Inputs n.1.Records) e _ _ _ _ _ (hS.boxRow 2 rfl) (hS.notin 2 rfl) (aB.lent (i:=2) rfl (hS.get 6 rfl)) (aB.lent (i:=2) rfl (hS.get 0 rfl)) (aB.lent (i:=2) rfl (hS.get 2 rfl)) (aB.lent (i:=2) rfl (hS.get 1 rfl)) (bu.keep (hS.get 11 rfl) (Kt.refl _ _) (fun k hk=>.inl ((mz (i:=2) rfl k).1 hk))) _ N) fun _ w hR hk=>?_)
 obtain ⟨V,W,H,he,E,F,hrow,G⟩:=hR
 obtain rfl:=he.symm
 refine ⟨(aU Q.2 H),hrow,fun a hS=>?_⟩
 replace hS:=hS.fS (aB.back (i:=2) rfl E)
 replace hS:=hS.fS (aB.back (i:=2) rfl F)
 replace hS:=hS.fS (aB.back (i:=2) rfl G)
 refine go hS fun a w hS=>?_
 cases hM
 refine aF hS Tryz.results10 (ar hS rfl (a8 hS rfl 1 rfl fG rfl (fun h=>by cases h) aH)) ?_
 exact ⟨j,V,W,H,rfl,(aB.up ⟨.inr (List.mem_of_getElem? (i:=2) rfl),trivial⟩ (hS.get 3 rfl)),(aB.up ⟨.inr (List.mem_of_getElem? (i:=2) rfl),trivial⟩ (hS.get 2 rfl)),(aB.up ⟨.inr (List.mem_of_getElem? (i:=2) rfl),trivial⟩ (hS.get 1 rfl)),hS.boxRow 2 rfl,(aB.up ⟨.inr (List.mem_of_getElem? (i:=2) rfl),trivial⟩ (hS.get 0 rfl))⟩
end
end
section
set_option maxRecDepth 100000
set_option maxHeartbeats 4000000
open Go.RowKit
noncomputable section
def fZ (b:Bool):Option Bool:=some (b)
def da (b:(ah×Int)) (d:Int):Option Bool:=cond ((b.1.Revision:Int) == d) ((dY).bind fun c=>fZ c) (fZ false)
def f0 (c:(LU×ah×aQ)) (b:(aT×aQ)) (e:ByteArray):Option Bool:=(cc (ah.mk c.2.1.Revision c.2.1.Inputs c.2.1.Records) ([(aT.mk (ae.mk b.1.Key.Kind b.1.Key.Text) b.1.Value),(aT.mk (ae.mk b.1.Key.Kind b.1.Key.Text) e)])).bind fun f=>(cc (ah.mk c.2.1.Revision c.2.1.Inputs c.2.1.Records) ([(aT.mk (ae.mk b.1.Key.Kind b.1.Key.Text) b.1.Value)])).bind fun g=>(cc (ah.mk g.1.Revision g.1.Inputs g.1.Records) ([(aT.mk (ae.mk b.1.Key.Kind b.1.Key.Text) e)])).bind fun d=>cond ((f.2:Int) != 0) (some (false)) (cond ((g.2:Int) != 0) (some (false)) (cond ((d.2:Int) != 0) (some (false)) ((jy (ah.mk f.1.Revision f.1.Inputs f.1.Records) (ah.mk c.2.1.Revision c.2.1.Inputs c.2.1.Records)).bind fun h=>cond (!(h)) (some (false)) ((bL (ah.mk d.1.Revision d.1.Inputs d.1.Records) (ae.mk b.1.Key.Kind b.1.Key.Text)).bind fun i=>cond (!(i.toList == e.toList)) (some (false)) (cond (!(b.1.Value.toList == e.toList)) (da d (IntKind.i64.wrap (c.2.1.Revision + 2))) (da d c.2.1.Revision))))))
def ep (d:LN):Option Bool:=(gG d).bind fun e=>cond (!(e)) ((dY).bind fun f=>some (f)) ((n3 d).bind fun g=>(lx g 3).bind fun b=>(ly (aQ.mk b.2.2.L b.2.2.At)).bind fun c=>(bL (ah.mk b.2.1.Revision b.2.1.Inputs b.2.1.Records) (ae.mk c.1.Key.Kind c.1.Key.Text)).bind fun h=>f0 b c h)
theorem qv (T:Nat→Prop) (W0:World) (hT:TW T W0) (hLv:c6 T W0) (q:LN) (v1:Value) (bl:aB (aR.int .i64) T W0 v1 q) (y:Bool) (hM:ep q=some y):aY Tryz.prog No 3 [v1] W0 (fun v w'=>v = .bool y):=by
 refine en Tryz.func3 Tryz.ntmps3 hT fun a hS=>?_
 replace hS:=hS.fact bu (c6.dn hLv)
 replace hS:=hS.fS (aB.dn bl)
 unfold ep at hM
 refine ai hS fun a hS=>?_
 refine aw ?_
 refine ai hS fun a hS=>?_
 obtain ⟨d0,ag,hM⟩:=bd hM
 refine kc hS HU (nS _ _ hS.dlt q _ (hS.get 0 rfl) _ ag) fun _ w hR a hk hA=>?_
 obtain rfl:=hR
 have hS:=bM hA
 refine ai hS fun a hS=>?_
 rcases cd hM with ⟨az,hM⟩ | ⟨az,hM⟩
 ·refine ai hS fun a hS=>?_
  obtain ⟨d1,ak,hM⟩:=bd hM
  refine kc hS Em (ft _ _ hS.dlt (hS.get 1 rfl) _ ak) fun _ w hR a hk hA=>?_
  obtain rfl:=hR
  have hS:=bM hA
  exact fz
 refine ai hS fun a hS=>?_
 obtain ⟨V,ao,hM⟩:=bd hM
 refine kc hS HV (oS _ _ hS.dlt q _ (hS.get 0 rfl) _ ao) fun _ w hR a hk hA=>?_
 obtain ⟨av,b8,he,bi,D,E⟩:=hR
 obtain rfl:=he.symm
 have hS:=hA [.box av (aU V b8) 55] (gS D (fun k hk=>by simp only [cx.dom,Option.some.injEq] at hk; omega)) (s4 _)
 replace hS:=hS.fS (E.sub (jk _))
 refine ai hS fun a hS=>?_
 obtain ⟨c,a3,hM⟩:=bd hM
 refine wl rfl (bR hS CT rfl rfl 0 rfl (oR _ _ (hS.drop 0).dlt V 3 _ _ (hS.boxRow 0 rfl) (hS.notin 0 rfl) (aB.lent (i:=0) rfl (hS.get 0 rfl)) (bu.keep (hS.get 2 rfl) (Kt.refl _ _) (fun k hk=>.inl ((mz (i:=0) rfl k).1 hk))) _ a3) fun _ w hR hk=>?_)
 obtain ⟨d2,W,X,b9,he,F,G,H,hrow,I⟩:=hR
 obtain rfl:=he.symm
 refine ⟨(aU c.2.2 b9),hrow,fun a hS=>?_⟩
 replace hS:=hS.fS (aB.back (i:=0) rfl F)
 replace hS:=hS.fS (aB.back (i:=0) rfl G)
 replace hS:=hS.fS (aB.back (i:=0) rfl H)
 replace hS:=hS.fS (aB.back (i:=0) rfl I)
 refine ai hS fun a hS=>?_
 refine ka hS jP fun r ca a w hk hS=>?_
 refine go hS fun a w hS=>?_
 obtain ⟨b,a4,hM⟩:=bd hM
 refine wl rfl (bR hS GB rfl rfl 1 rfl (rB _ _ (hS.drop 1).dlt (aQ.mk c.2.2.L c.2.2.At) _ _ (hS.boxRow 1 rfl) (hS.notin 1 rfl) (aB.lent (i:=1) rfl (hS.get 0 rfl)) (bu.keep (hS.get 6 rfl) (Kt.refl _ _) (fun k hk=>.inl ((mz (i:=1) rfl k).1 hk))) _ a4) fun _ w hR hk=>?_)
 obtain ⟨bb,he,hrow,K⟩:=hR
 obtain rfl:=he.symm
 refine ⟨(aU b.2 bb),hrow,fun a hS=>?_⟩
 replace hS:=hS.fS (aB.back (i:=1) rfl K)
 refine ka hS pb fun s cb a w hk hS=>?_
 refine go hS fun a w hS=>?_
 refine aI (J:=fun a w=>∃ (d:ByteArray) (h:Nat),St W0 No T 98 [(5,pt r 0),(6,pt s 0),(7,pt h 0)] [.box r (aO c.2.1 W X) 31,.box s (dG b.1) 37,.box h [.int .i64 b.1.Key.Kind,.string b.1.Key.Text,.string d] 37] [aJ ac W c.2.1.Inputs,aJ aa X c.2.1.Records,bu] a w∧f0 c b d=some y) ?_ ?_
 ·skip
  obtain ⟨N128,a0⟩:∃ N,N=w.heap.size:=⟨_,rfl⟩
  replace hS:=hS.fact (Ak N128) (Nat.le_of_eq a0)
  refine dr [(8,.new N128)] hS fun w hQ hS=>?_
  refine gE [0,1,2,3,4] hS fun a hS=>?_
  obtain ⟨f,p,hM⟩:=bd hM
  refine dU (i:=5) (j:=7) rfl rfl (by kernel_rfl) rfl rfl ?_ ?_
  ·skip
   skip
   refine id (a7 hS uB rfl rfl (cP _ _ hS.dlt (hS.get 8 rfl) (ah.mk c.2.1.Revision c.2.1.Inputs c.2.1.Records) (ae.mk b.1.Key.Kind b.1.Key.Text) _ _ (hS.get 4 rfl) (hS.get 3 rfl) _ p) fun _ w hR a hk hA=>⟨fx (hk),?_⟩)
   obtain rfl:=hR
   have hS:=bM hA
   refine dy 6 (v:=.agg #[.int .i64 b.1.Key.Kind,.string b.1.Key.Text,.string f]) rfl (by kernel_rfl) (by kernel_rfl) (by kernel_rfl) rfl hQ hS (br (ps:=[(0,.tmp 29),(1,.tmp 33)]) hS DE pb rfl (us:=[(aS b.1.Key),[.string f]]) ⟨rfl,⟨rfl,trivial⟩⟩ (ws:=[.int .i64 b.1.Key.Kind,.string b.1.Key.Text,.string f]) rfl) rfl rfl rfl fun a hS=>?_
   have b0:=(hS.get 0 rfl:N128≤w.heap.size)
   refine e1 7 (cE hS pb rfl fun ax b1 a w hk hS=>⟨fx (hk),?_⟩)
   refine cN 8 (.blk (some ax)) _ (by kernel_rfl) (my (Nat.le_trans b0 b1)) ?_
   refine es 8 hS fun w hS=>?_
   refine eD ?_
   exact ⟨_,_,hS.mt [2,1,0] [4,3,8],hM⟩
  skip
  have b2:=(hS.get 0 rfl:N128≤w.heap.size)
  refine id (cE hS pb rfl fun ay b3 a w hk hS=>⟨fx (hk),?_⟩)
  refine cN 8 (.blk (some ay)) _ (by kernel_rfl) (my (Nat.le_trans b2 b3)) ?_
  refine ec 5 hS uB (cP _ _ hS.dlt (hS.get 8 rfl) (ah.mk c.2.1.Revision c.2.1.Inputs c.2.1.Records) (ae.mk b.1.Key.Kind b.1.Key.Text) _ _ (hS.get 4 rfl) (hS.get 3 rfl) _ p) fun _ w hR a hk hA=>?_
  obtain rfl:=hR
  have hS:=bM hA
  refine dy 6 (v:=.agg #[.int .i64 b.1.Key.Kind,.string b.1.Key.Text,.string f]) rfl (by kernel_rfl) (by kernel_rfl) (by kernel_rfl) rfl hQ hS (br (ps:=[(0,.tmp 29),(1,.tmp 33)]) hS DE pb rfl (us:=[(aS b.1.Key),[.string f]]) ⟨rfl,⟨rfl,trivial⟩⟩ (ws:=[.int .i64 b.1.Key.Kind,.string b.1.Key.Text,.string f]) rfl) rfl rfl rfl fun a hS=>?_
  refine es 8 hS fun w hS=>?_
  refine eD ?_
  exact ⟨_,_,hS.mt [2,1,0] [4,3,8],hM⟩
 rintro a w ⟨d,h,hS,hM⟩
 unfold f0 at hM
 refine ai hS fun a hS=>?_
 refine wl rfl (aZ (ps:=[(0,.tmp 37),(1,.tmp 38)]) hS y4 pb (zl:=[.int .i64 0,.string (ByteArray.mk #[]),.string (ByteArray.mk #[]),.int .i64 0,.string (ByteArray.mk #[]),.string (ByteArray.mk #[])]) (by kernel_rfl) rfl (us:=[(dG b.1),[.int .i64 b.1.Key.Kind,.string b.1.Key.Text,.string d]]) ⟨rfl,⟨rfl,trivial⟩⟩ (ws:=[.int .i64 b.1.Key.Kind,.string b.1.Key.Text,.string b.1.Value,.int .i64 b.1.Key.Kind,.string b.1.Key.Text,.string d]) rfl rfl rfl rfl fun bs a w hk hS=>?_)
 replace hS:=hS.lit (R:=aK) (us:=[.int .i64 b.1.Key.Kind,.string b.1.Key.Text,.string b.1.Value,.int .i64 b.1.Key.Kind,.string b.1.Key.Text,.string d]) (xs:=[(aT.mk (ae.mk b.1.Key.Kind b.1.Key.Text) b.1.Value),(aT.mk (ae.mk b.1.Key.Kind b.1.Key.Text) d)]) 0 rfl (by decide) ((aD.one_ (R:=aK) (x:=(aT.mk (ae.mk b.1.Key.Kind b.1.Key.Text) b.1.Value)) rfl).append (aD.one_ (R:=aK) (x:=(aT.mk (ae.mk b.1.Key.Kind b.1.Key.Text) d)) rfl)) rfl rfl
 replace hS:=hS.freeze (R:=aK) 0 rfl 0 rfl
 obtain ⟨m,a5,hM⟩:=bd hM
 refine kc hS xO (dD _ _ hS.dlt (hS.get 4 rfl) (ah.mk c.2.1.Revision c.2.1.Inputs c.2.1.Records) ([(aT.mk (ae.mk b.1.Key.Kind b.1.Key.Text) b.1.Value),(aT.mk (ae.mk b.1.Key.Kind b.1.Key.Text) d)]) _ _ _ (hS.get 2 rfl) (hS.get 3 rfl) (hS.get 0 rfl) _ a5) fun _ w hR a hk hA=>?_
 obtain ⟨d3,c3,d4,c4,he,M,O,g⟩:=hR
 obtain rfl:=he.symm
 have hS:=sZ hA M O g
 refine ai hS fun a hS=>?_
 refine ka hS jP fun bt ch a w hk hS=>?_
 refine go hS fun a w hS=>?_
 refine wl rfl (aZ (ps:=[(0,.tmp 45)]) hS y4 pb (zl:=[.int .i64 0,.string (ByteArray.mk #[]),.string (ByteArray.mk #[])]) (by kernel_rfl) rfl (us:=[(dG b.1)]) ⟨rfl,trivial⟩ (ws:=(dG b.1)) rfl rfl rfl rfl fun c0 a w hk hS=>?_)
 replace hS:=hS.lit (R:=aK) (us:=(dG b.1)) (xs:=[(aT.mk (ae.mk b.1.Key.Kind b.1.Key.Text) b.1.Value)]) 0 rfl (by decide) (aD.one_ (R:=aK) (x:=(aT.mk (ae.mk b.1.Key.Kind b.1.Key.Text) b.1.Value)) rfl) rfl rfl
 replace hS:=hS.freeze (R:=aK) 0 rfl 0 rfl
 obtain ⟨n,a9,hM⟩:=bd hM
 refine kc hS xO (dD _ _ hS.dlt (hS.get 8 rfl) (ah.mk c.2.1.Revision c.2.1.Inputs c.2.1.Records) ([(aT.mk (ae.mk b.1.Key.Kind b.1.Key.Text) b.1.Value)]) _ _ _ (hS.get 6 rfl) (hS.get 7 rfl) (hS.get 0 rfl) _ a9) fun _ w hR a hk hA=>?_
 obtain ⟨d6,c5,dc,c9,he,P,Q,g⟩:=hR
 obtain rfl:=he.symm
 have hS:=sZ hA P Q g
 refine ai hS fun a hS=>?_
 refine ka hS jP fun c1 ck a w hk hS=>?_
 refine go hS fun a w hS=>?_
 refine wl rfl (aZ (ps:=[(0,.tmp 52)]) hS y4 pb (zl:=[.int .i64 0,.string (ByteArray.mk #[]),.string (ByteArray.mk #[])]) (by kernel_rfl) rfl (us:=[[.int .i64 b.1.Key.Kind,.string b.1.Key.Text,.string d]]) ⟨rfl,trivial⟩ (ws:=[.int .i64 b.1.Key.Kind,.string b.1.Key.Text,.string d]) rfl rfl rfl rfl fun c2 a w hk hS=>?_)
 replace hS:=hS.freeze (R:=ac) 2 rfl 1 rfl
 replace hS:=hS.freeze (R:=aa) 2 rfl 1 rfl
 replace hS:=hS.lit (R:=aK) (us:=[.int .i64 b.1.Key.Kind,.string b.1.Key.Text,.string d]) (xs:=[(aT.mk (ae.mk b.1.Key.Kind b.1.Key.Text) d)]) 0 rfl (by decide) (aD.one_ (R:=aK) (x:=(aT.mk (ae.mk b.1.Key.Kind b.1.Key.Text) d)) rfl) rfl rfl
 replace hS:=hS.freeze (R:=aK) 0 rfl 0 rfl
 obtain ⟨e,a1,hM⟩:=bd hM
 refine kc hS xO (dD _ _ hS.dlt (hS.get 14 rfl) (ah.mk n.1.Revision n.1.Inputs n.1.Records) ([(aT.mk (ae.mk b.1.Key.Kind b.1.Key.Text) d)]) _ _ _ (hS.get 3 rfl) (hS.get 2 rfl) (hS.get 0 rfl) _ a1) fun _ w hR a hk hA=>?_
 obtain ⟨Y,u,Z,z,he,S,U,g⟩:=hR
 obtain rfl:=he.symm
 have hS:=sZ hA S U g
 refine ai hS fun a hS=>?_
 refine ka hS jP fun t cl a w hk hS=>?_
 refine go hS fun a w hS=>?_
 refine aw ?_
 refine aw ?_
 refine dr [] hS fun w hQ hS=>?_
 refine gE [0,1,2] hS fun a hS=>?_
 rcases cd hM with ⟨b4,hM⟩ | ⟨b4,hM⟩
 ·refine gE [3,4,5,6,7,8,9,10,11,12,13,14,15,16,17,18,19,20,21,22,23,24] hS fun a hS=>?_
  refine eD ?_
  exact fz
 refine gE [3,4,5,6] hS fun a hS=>?_
 rcases cd hM with ⟨b5,hM⟩ | ⟨b5,hM⟩
 ·refine gE [7,8,9,10,11,12,13,14,15,16,17,18,19,20,21,22,23,24] hS fun a hS=>?_
  refine eD ?_
  exact fz
 refine gE [7,8,9,10] hS fun a hS=>?_
 rcases cd hM with ⟨A,hM⟩ | ⟨A,hM⟩
 ·refine gE [11,12,13,14,15,16,17,18,19,20,21,22,23,24] hS fun a hS=>?_
  refine eD ?_
  exact fz
 refine gE [11,12] hS fun a hS=>?_
 have hL:=hS
 replace hL:=hL.freeze (R:=ac) 5 rfl 11 rfl
 replace hL:=hL.freeze (R:=aa) 5 rfl 11 rfl
 obtain ⟨cs,ab,hM⟩:=bd hM
 refine bV (i:=13) rfl (by kernel_rfl) hS rfl rfl rfl A (a7 hS EK rfl rfl (pU _ _ hL.dlt (ah.mk m.1.Revision m.1.Inputs m.1.Records) (ah.mk c.2.1.Revision c.2.1.Inputs c.2.1.Records) _ _ _ _ (hL.get 1 rfl) (hL.get 0 rfl) (hL.get 16 rfl) (hL.get 17 rfl) _ ab) fun _ w hR a hk hA=>⟨fx (hk),?_⟩)
 obtain rfl:=hR
 have hS:=bM hA
 refine gE [14,15,16] hS fun a hS=>?_
 rcases cd hM with ⟨B,hM⟩ | ⟨B,hM⟩
 ·refine gE [17,18,19,20,21,22,23,24] hS fun a hS=>?_
  refine eD ?_
  exact fz
 refine gE [17,18,19,21,22] hS fun a hS=>?_
 have hL:=hS
 replace hL:=hL.freeze (R:=ac) 1 rfl 1 rfl
 replace hL:=hL.freeze (R:=aa) 1 rfl 1 rfl
 obtain ⟨cv,af,hM⟩:=bd hM
 refine bV (i:=20) rfl (by kernel_rfl) hS rfl rfl rfl B (a7 hS uB rfl rfl (cP _ _ hL.dlt (hL.get 18 rfl) (ah.mk e.1.Revision e.1.Inputs e.1.Records) (ae.mk b.1.Key.Kind b.1.Key.Text) _ _ (hL.get 1 rfl) (hL.get 0 rfl) _ af) fun _ w hR a hk hA=>⟨fx (hk),?_⟩)
 obtain rfl:=hR
 have hS:=bM hA
 refine gE [23,24] hS fun a hS=>?_
 refine eD ?_
 refine ai hS fun a hS=>?_
 rcases cd hM with ⟨b6,hM⟩ | ⟨b6,hM⟩
 ·exact fz
 refine ai hS fun a hS=>?_
 refine aI (J:=fun a w=>∃ (o:Int),St W0 No T 98 [(12,pt t 0),(14,.int .i64 o)] [aP Y u,aE Z z,.box t (aO e.1 Y Z) 31] [am ac u e.1.Inputs,am aa z e.1.Records,bu] a w∧da e o=some y) ?_ ?_
 ·exact fz
 rintro a w ⟨o,hS,hM⟩
 unfold da at hM
 refine aI (J:=fun a w=>∃ (l:Bool),St W0 No T 98 [(2,.bool l)] [] [bu] a w∧fZ l=some y) ?_ ?_
 ·skip
  refine ai hS fun a hS=>?_
  rcases cd hM with ⟨C,hM⟩ | ⟨C,hM⟩
  ·obtain ⟨co,a2,hM⟩:=bd hM
   refine wg hS rfl rfl rfl C (a7 hS Em rfl rfl (ft _ _ hS.dlt (hS.get 2 rfl) _ a2) fun _ w hR a hk hA=>?_)
   obtain rfl:=hR
   have hS:=bM hA
   exact fz
  exact fz
 rintro a w ⟨l,hS,hM⟩
 unfold fZ at hM
 exact fz
def db (b:Bool):Option Bool:=some (b)
def ef (b:(LU×ah×aQ)) (d:(LC×aQ)) (c:(ah×Int)) (f:Int):Option Bool:=cond ((c.2:Int) == 0) (cond (decide ((c.1.Revision:Int)≤(IntKind.i64.wrap (b.2.1.Revision + 1)))) (cond (decide ((f:Int)≤(IntKind.i64.wrap (b.2.1.Revision + (d.1.length:Int))))) ((dY).bind fun e=>db e) (db false)) (db false)) (db false)
def eh (c:(ah×Int)) (h:Int) (i:LI) (j:LR) (b:Int):Option (Fl (Int) (Fl (Unit) Bool)):=cond (decide ((b:Int) < 5)) ((cZ b).bind fun d=>(bL (ah.mk c.1.Revision c.1.Inputs c.1.Records) d).bind fun e=>(cZ b).bind fun f=>(bL (ah.mk h i j) f).bind fun g=>cond (!(e.toList == g.toList)) (some (.out (.out false))) (some (.go (IntKind.i64.wrap (b + 1))))) (some (.out (.go ())))
def eg (d:(LU×ah×aQ)) (e:(LC×aQ)) (b:(ah×Int)) (c:Int) (f:LI) (g:LR):Option Bool:=(loop (fun s:Int=>eh b c f g s) 0).bind fun r=>Fl.el r (fun s=>ef d e b c) (fun y=>some (y))
def f7 (e:(LC×aQ)) (d:Int) (c:Int) (f:LI) (g:LR):Option (Fl (Int×Int×LI×LR) (Fl (Int×LI×LR) Bool)):=cond (decide ((d:Int) < (e.1.length:Int))) ((bm e.1 d).bind fun h=>(cc (ah.mk c f g) ([h])).bind fun b=>cond ((b.2:Int) != 0) (some (.out (.out false))) (cond (decide ((b.1.Revision:Int) < c)) (some (.out (.out false))) (cond (decide ((IntKind.i64.wrap (c + 1):Int) < b.1.Revision)) (some (.out (.out false))) (some (.go (IntKind.i64.wrap (d + 1),b.1.Revision,b.1.Inputs,b.1.Records)))))) (some (.out (.go (c,f,g))))
def eu (d:LN):Option Bool:=(gG d).bind fun f=>cond (!(f)) ((dY).bind fun g=>some (g)) ((n3 d).bind fun h=>(lx h 3).bind fun b=>(gt (aQ.mk b.2.2.L b.2.2.At) 5).bind fun c=>(cc (ah.mk b.2.1.Revision b.2.1.Inputs b.2.1.Records) c.1).bind fun e=>(loop (fun s:Int×Int×LI×LR=>f7 c s.1 s.2.1 s.2.2.1 s.2.2.2) (0,b.2.1.Revision,b.2.1.Inputs,b.2.1.Records)).bind fun r=>Fl.el r (fun s=>eg b c e s.1 s.2.1 s.2.2) (fun y=>some (y)))
theorem qw (T:Nat→Prop) (W0:World) (hT:TW T W0) (hLv:c6 T W0) (M:LN) (v1:Value) (c9:aB (aR.int .i64) T W0 v1 M) (y:Bool) (hM:eu M=some y):aY Tryz.prog No 4 [v1] W0 (fun v w'=>v = .bool y):=by
 refine en Tryz.func4 Tryz.ntmps4 hT fun a hS=>?_
 replace hS:=hS.fact bu (c6.dn hLv)
 replace hS:=hS.fS (aB.dn c9)
 unfold eu at hM
 refine ai hS fun a hS=>?_
 refine aw ?_
 refine ai hS fun a hS=>?_
 obtain ⟨e2,b1,hM⟩:=bd hM
 refine kc hS HU (nS _ _ hS.dlt M _ (hS.get 0 rfl) _ b1) fun _ w hR a hk hA=>?_
 obtain rfl:=hR
 have hS:=bM hA
 refine ai hS fun a hS=>?_
 rcases cd hM with ⟨b6,hM⟩ | ⟨b6,hM⟩
 ·refine ai hS fun a hS=>?_
  obtain ⟨e3,b2,hM⟩:=bd hM
  refine kc hS Em (ft _ _ hS.dlt (hS.get 1 rfl) _ b2) fun _ w hR a hk hA=>?_
  obtain rfl:=hR
  have hS:=bM hA
  exact fz
 refine ai hS fun a hS=>?_
 obtain ⟨a9,b3,hM⟩:=bd hM
 refine kc hS HV (oS _ _ hS.dlt M _ (hS.get 0 rfl) _ b3) fun _ w hR a hk hA=>?_
 obtain ⟨b4,c2,he,c5,Q,U⟩:=hR
 obtain rfl:=he.symm
 have hS:=hA [.box b4 (aU a9 c2) 55] (gS Q (fun k hk=>by simp only [cx.dom,Option.some.injEq] at hk; omega)) (s4 _)
 replace hS:=hS.fS (U.sub (jk _))
 refine ai hS fun a hS=>?_
 obtain ⟨c,af,hM⟩:=bd hM
 refine wl rfl (bR hS CT rfl rfl 0 rfl (oR _ _ (hS.drop 0).dlt a9 3 _ _ (hS.boxRow 0 rfl) (hS.notin 0 rfl) (aB.lent (i:=0) rfl (hS.get 0 rfl)) (bu.keep (hS.get 2 rfl) (Kt.refl _ _) (fun k hk=>.inl ((mz (i:=0) rfl k).1 hk))) _ af) fun _ w hR hk=>?_)
 obtain ⟨e4,m,n,c3,he,V,W,X,hrow,Y⟩:=hR
 obtain rfl:=he.symm
 refine ⟨(aU c.2.2 c3),hrow,fun a hS=>?_⟩
 replace hS:=hS.fS (aB.back (i:=0) rfl V)
 replace hS:=hS.fS (aB.back (i:=0) rfl W)
 replace hS:=hS.fS (aB.back (i:=0) rfl X)
 replace hS:=hS.fS (aB.back (i:=0) rfl Y)
 refine ai hS fun a hS=>?_
 refine ka hS jP fun f d0 a w hk hS=>?_
 refine go hS fun a w hS=>?_
 obtain ⟨e,ag,hM⟩:=bd hM
 refine wl rfl (nq hS CU rfl rfl 1 rfl (lX _ _ (hS.drop 1).dlt (aQ.mk c.2.2.L c.2.2.At) 5 _ _ (hS.boxRow 1 rfl) (hS.notin 1 rfl) (aB.lent (i:=1) rfl (hS.get 0 rfl)) (bu.keep (hS.get 6 rfl) (Kt.refl _ _) (fun k hk=>.inl ((mz (i:=1) rfl k).1 hk))) _ ag) fun _ w hR hk=>?_)
 obtain ⟨d,G,c4,he,⟨S,P,Z⟩,hrow,a0⟩:=hR
 obtain rfl:=he.symm
 refine ⟨(aU e.2 c4),[fc d G],hrow,gS ⟨S,by decide⟩ P,s4 _,fun a hS=>?_⟩
 replace hS:=hS.fR (Z.keep (Kt.refl _ _) (Nw.back2 (i:=1) rfl [fc d G] _))
 replace hS:=hS.fS (a0.sub (Nw.back2 (i:=1) rfl [fc d G] _))
 refine ai hS fun a hS=>?_
 replace hS:=hS.freeze (R:=aK) 0 rfl 1 rfl
 obtain ⟨b,ak,hM⟩:=bd hM
 refine kc hS xO (dD _ _ hS.dlt (hS.get 9 rfl) (ah.mk c.2.1.Revision c.2.1.Inputs c.2.1.Records) e.1 _ _ _ (hS.get 5 rfl) (hS.get 4 rfl) (hS.get 0 rfl) _ ak) fun _ w hR a hk hA=>?_
 obtain ⟨o,j,p,l,he,a1,a2,O⟩:=hR
 obtain rfl:=he.symm
 have hS:=sZ hA a1 a2 O
 refine ai hS fun a hS=>?_
 refine ka hS jP fun g d1 a w hk hS=>?_
 refine go hS fun a w hS=>?_
 refine ka hS jP fun h d2 a w hk hS=>?_
 refine go hS fun a w hS=>?_
 refine aI (J:=fun a w=>∃ (q:Int) (u:LI) (z:LR) (r:Value) (t:Value),St W0 No T 103 [(5,pt f 0),(6,d),(7,pt g 0),(8,.int .i64 b.2),(9,pt h 0)] [.box f (aO c.2.1 m n) 31,aP o j,aE p l,.box g (aO b.1 o p) 31,.box h [.int .i64 q,r,t] 31] [aJ aK d e.1,aJ ac m c.2.1.Inputs,aJ aa n c.2.1.Records,am ac j b.1.Inputs,am aa l b.1.Records,aJ ac r u,aJ aa t z,bu] a w∧eg c e b q u z=some y) ?_ ?_
 ·skip
  refine ai hS fun a hS=>?_
  obtain ⟨r1,a5,hMo1⟩:=bd hM
  refine bB _ (fun s a w=>∃ (F:Int) (C:Int) (D:LI) (E:LR) (I:Value) (K:Value),(F,C,D,E)=s∧St W0 No T 103 [(5,pt f 0),(6,d),(7,pt g 0),(8,.int .i64 b.2),(9,pt h 0),(35,d),(36,.int .i64 (e.1.length:Int)),(37,.int .i64 F)] [.box f (aO c.2.1 m n) 31,aP o j,aE p l,.box g (aO b.1 o p) 31,.box h [.int .i64 C,I,K] 31] [aJ aK d e.1,aJ ac m c.2.1.Inputs,aJ aa n c.2.1.Records,am ac j b.1.Inputs,am aa l b.1.Records,aJ ac I D,aJ aa K E,bu] a w) a5 ⟨_,_,_,_,_,_,rfl,hS.mt [4,2,3,1,0] [2,7,6,1,0,7,6,11]⟩ ?_
  rintro s a w f1 ⟨F,C,D,E,I,K,rfl,hS⟩ hM hf1
  have hM:f7 e F C D E=some f1:=hM
  unfold f7 at hM
  refine ai hS fun a hS=>?_
  refine aw ?_
  rcases cd hM with ⟨b8,hM⟩ | ⟨b8,hM⟩
  ·refine ai hS fun a hS=>?_
   refine aw ?_
   refine ai hS fun a hS=>?_
   obtain ⟨A,ab,hM⟩:=bd hM
   refine wl rfl (bf (R:=aK) hS vT vU rfl rfl 0 rfl ab rfl fun cb d6 co b9 a hS=>?_)
   obtain rfl:=b9
   refine ai hS fun a hS=>?_
   refine ka hS pb fun ch d3 a w hk hS=>?_
   refine go hS fun a w hS=>?_
   refine wl rfl (aZ (ps:=[(0,.tmp 43)]) hS y4 pb (zl:=[.int .i64 0,.string (ByteArray.mk #[]),.string (ByteArray.mk #[])]) (by kernel_rfl) rfl (us:=[(dG A)]) ⟨rfl,trivial⟩ (ws:=(dG A)) rfl rfl rfl rfl fun ck a w hk hS=>?_)
   replace hS:=hS.lit (R:=aK) (us:=(dG A)) (xs:=[A]) 0 rfl (by decide) (aD.one_ (R:=aK) (x:=A) rfl) rfl rfl
   replace hS:=hS.freeze (R:=aK) 0 rfl 0 rfl
   obtain ⟨e0,b0,hM⟩:=bd hM
   refine kc hS xO (dD _ _ hS.dlt (hS.get 10 rfl) (ah.mk C D E) ([A]) _ _ _ (hS.get 8 rfl) (hS.get 9 rfl) (hS.get 0 rfl) _ b0) fun _ w hR a hk hA=>?_
   obtain ⟨e5,cs,e8,cv,he,a3,a4,O⟩:=hR
   obtain rfl:=he.symm
   have hS:=sZ hA a3 a4 O
   refine ai hS fun a hS=>?_
   refine ka hS jP fun cl d4 a w hk hS=>?_
   refine go hS fun a w hS=>?_
   refine aw ?_
   refine jO ?_
   refine ai hS fun a hS=>?_
   rcases cd hM with ⟨bb,hM⟩ | ⟨bb,hM⟩
   ·exact fz
   refine ai hS fun a hS=>?_
   rcases cd hM with ⟨bi,hM⟩ | ⟨bi,hM⟩
   ·exact fz
   refine ai hS fun a hS=>?_
   rcases cd hM with ⟨bl,hM⟩ | ⟨bl,hM⟩
   ·exact fz
   refine go hS fun a w hS=>?_
   replace hS:=hS.freeze (R:=ac) 1 rfl 1 rfl
   replace hS:=hS.freeze (R:=aa) 1 rfl 1 rfl
   exact ⟨_,(Option.some.inj hM).symm,_,_,_,_,_,_,rfl,hS.mt [2,3,4,5,6] [7,8,9,10,11,1,0,14]⟩
  exact fz
 rintro a w ⟨q,u,z,r,t,hS,hM⟩
 unfold eg at hM
 refine aI (J:=fun a w=>St W0 No T 103 [(5,pt f 0),(6,d),(7,pt g 0),(8,.int .i64 b.2),(9,pt h 0)] [.box f (aO c.2.1 m n) 31,aP o j,aE p l,.box g (aO b.1 o p) 31,.box h [.int .i64 q,r,t] 31] [aJ aK d e.1,aJ ac m c.2.1.Inputs,aJ aa n c.2.1.Records,am ac j b.1.Inputs,am aa l b.1.Records,aJ ac r u,aJ aa t z,bu] a w∧ef c e b q=some y) ?_ ?_
 ·skip
  refine ai hS fun a hS=>?_
  obtain ⟨r1,a5,hMo1⟩:=bd hM
  refine bB _ (fun s a w=>∃ (B:Int),B=s∧St W0 No T 103 [(5,pt f 0),(6,d),(7,pt g 0),(8,.int .i64 b.2),(9,pt h 0),(67,.int .i64 B)] [.box f (aO c.2.1 m n) 31,aP o j,aE p l,.box g (aO b.1 o p) 31,.box h [.int .i64 q,r,t] 31] [aJ aK d e.1,aJ ac m c.2.1.Inputs,aJ aa n c.2.1.Records,am ac j b.1.Inputs,am aa l b.1.Records,aJ ac r u,aJ aa t z,bu] a w) a5 ⟨_,rfl,hS.mt [0,1,2,3,4] [0,1,2,3,4,5,6,7]⟩ ?_
  rintro s a w f1 ⟨B,rfl,hS⟩ hM hf1
  have hM:eh b q u z B=some f1:=hM
  unfold eh at hM
  refine ai hS fun a hS=>?_
  refine aw ?_
  rcases cd hM with ⟨bq,hM⟩ | ⟨bq,hM⟩
  ·refine ai hS fun a hS=>?_
   refine aw ?_
   refine ai hS fun a hS=>?_
   refine aw ?_
   refine dr [] hS fun w hQ hS=>?_
   refine gE [0,1,4,5] hS fun a hS=>?_
   obtain ⟨c0,av,hM⟩:=bd hM
   refine ec 2 hS vD (eG _ _ hS.dlt (hS.get 7 rfl) B _ av) fun _ w hR a hk hA=>?_
   obtain rfl:=hR
   have hS:=bM hA
   have hL:=hS
   replace hL:=hL.freeze (R:=ac) 1 rfl 3 rfl
   replace hL:=hL.freeze (R:=aa) 1 rfl 5 rfl
   obtain ⟨dl,ax,hM⟩:=bd hM
   refine ec 3 hS uB (cP _ _ hL.dlt (hL.get 9 rfl) (ah.mk b.1.Revision b.1.Inputs b.1.Records) c0 _ _ (hL.get 1 rfl) (hL.get 0 rfl) _ ax) fun _ w hR a hk hA=>?_
   obtain rfl:=hR
   have hS:=bM hA
   obtain ⟨c1,ay,hM⟩:=bd hM
   refine ec 6 hS vD (eG _ _ hS.dlt (hS.get 7 rfl) B _ ay) fun _ w hR a hk hA=>?_
   obtain rfl:=hR
   have hS:=bM hA
   obtain ⟨ds,az,hM⟩:=bd hM
   refine ec 7 hS uB (cP _ _ hS.dlt (hS.get 7 rfl) (ah.mk q u z) c1 _ _ (hS.get 5 rfl) (hS.get 6 rfl) _ az) fun _ w hR a hk hA=>?_
   obtain rfl:=hR
   have hS:=bM hA
   refine gE [8] hS fun a hS=>?_
   refine eD ?_
   exact fz
  exact fz
 rintro a w ⟨hS,hM⟩
 unfold ef at hM
 refine aI (J:=fun a w=>∃ (H:Bool),St W0 No T 103 [(2,.bool H)] [] [bu] a w∧db H=some y) ?_ ?_
 ·skip
  refine ai hS fun a hS=>?_
  rcases cd hM with ⟨bs,hM⟩ | ⟨bs,hM⟩
  ·refine ai hS fun a hS=>?_
   rcases cd hM with ⟨bt,hM⟩ | ⟨bt,hM⟩
   ·refine ai hS fun a hS=>?_
    rcases cd hM with ⟨N,hM⟩ | ⟨N,hM⟩
    ·obtain ⟨di,ao,hM⟩:=bd hM
     refine wg hS rfl rfl rfl N (a7 hS Em rfl rfl (ft _ _ hS.dlt (hS.get 7 rfl) _ ao) fun _ w hR a hk hA=>?_)
     obtain rfl:=hR
     have hS:=bM hA
     exact fz
    exact fz
   exact fz
  exact fz
 rintro a w ⟨H,hS,hM⟩
 unfold db at hM
 exact fz
def gR (b:LK):Option LK:=some (b)
def fh (b:Int) (c:LK):Option (Fl (LK×Int) (LK)):=some (.go (c,IntKind.i64.wrap (b + 1)))
def fi (f:ah) (d:Int) (c:LK) (b:Int):Option (Fl (LK×Int) (LK)):=cond (decide ((b:Int) < (f.Inputs.length:Int))) ((bm f.Inputs b).bind fun e=>cond (decide ((d:Int) < e.Changed)) (gd (bG (c.length + ([e.Key]).length)) <| fh b (c ++ ([e.Key]))) (fh b c)) (some (.out c))
def cV (c:ah) (b:Int):Option LK:=(loop (fun s:LK×Int=>fi c b s.1 s.2) (([]:List ae),0)).bind fun r=>gR r
theorem fX (T:Nat→Prop) (W0:World) (hT:TW T W0) (c:ah) (b:Int) (p:Value) (F:Value) (D:aB ac T W0 p c.Inputs) (E:aB aa T W0 F c.Records) (y:LK) (hM:cV c b=some y):aY Tryz.prog No 19 [.agg (aO c p F).toArray,.int .i64 b] W0 (fun v w'=>∃ (A:Value) (tH:List Value),v=A∧iy ad T W0 w' [au A tH] 35 A tH y):=by
 refine en Tryz.func19 Tryz.ntmps19 hT fun a hS=>?_
 replace hS:=hS.fS (aB.dn D)
 replace hS:=hS.fS (aB.dn E)
 unfold cV at hM
 refine ai hS fun a hS=>?_
 refine kb hS fun G N a w hk hS=>?_
 refine ai hS fun a hS=>?_
 refine aI (J:=fun a w=>∃ (l:LK) (h:Value) (g:LV),St W0 No T 26 [(5,h)] [au h g] [am ad g l] a w∧gR l=some y) ?_ ?_
 ·skip
  refine ai hS fun a hS=>?_
  replace hS:=hS.nilRow ad 35 (by decide)
  obtain ⟨S,C,hMo1⟩:=bd hM
  refine bB _ (fun s a w=>∃ (f:LK) (e:Int) (n:Value) (j:LV),(f,e)=s∧St W0 No T 26 [(1,.int .i64 b),(5,n),(9,p),(10,.int .i64 (c.Inputs.length:Int)),(11,.int .i64 e)] [au n j] [am ad j f,aJ ac p c.Inputs] a w) C ⟨_,_,_,_,rfl,hS.mt [0] [0,2]⟩ ?_
  rintro s a w B ⟨f,e,n,j,rfl,hS⟩ hM hf1
  have hM:fi c b f e=some B:=hM
  unfold fi at hM
  refine ai hS fun a hS=>?_
  refine aw ?_
  rcases cd hM with ⟨r,hM⟩ | ⟨r,hM⟩
  ·refine ai hS fun a hS=>?_
   refine aI (J:=fun a w=>∃ (m:LK) (o:Value) (k:LV),St W0 No T 26 [(1,.int .i64 b),(5,o),(9,p),(10,.int .i64 (c.Inputs.length:Int)),(11,.int .i64 e)] [au o k] [am ad k m,aJ ac p c.Inputs] a w∧fh e m=some B) ?_ ?_
   ·skip
    refine ai hS fun a hS=>?_
    obtain ⟨d,q,hM⟩:=bd hM
    refine wl rfl (bf (R:=ac) hS ro qN rfl rfl 1 rfl q rfl fun H P L t a hS=>?_)
    obtain rfl:=t
    refine ai hS fun a hS=>?_
    refine ka hS qn fun I O a w hk hS=>?_
    refine go hS fun a w hS=>?_
    rcases cd hM with ⟨u,hM⟩ | ⟨u,hM⟩
    ·refine ai hS fun a hS=>?_
     refine wl rfl (aZ (ps:=[(0,.tmp 21)]) hS iq gM (zl:=[.int .i64 0,.string (ByteArray.mk #[])]) (by kernel_rfl) rfl (us:=[(aS d.Key)]) ⟨rfl,trivial⟩ (ws:=(aS d.Key)) rfl rfl rfl rfl fun K a w hk hS=>?_)
     replace hS:=hS.lit (R:=ad) (us:=(aS d.Key)) (xs:=[d.Key]) 0 rfl (by decide) (aD.one_ (R:=ad) (x:=d.Key) rfl) rfl rfl
     replace hS:=hS.freeze (R:=ad) 0 rfl 0 rfl
     obtain ⟨z,hM⟩:=ba hM
     refine wl rfl (bC (R:=ad) (xs:=f) (ys:=[d.Key]) hS iq (by decide) (by decide) rfl rfl 1 rfl 3 rfl 0 rfl z rfl fun Q M a w hk hS=>?_)
     exact fz
    exact fz
   rintro a w ⟨m,o,k,hS,hM⟩
   unfold fh at hM
   exact fz
  exact fz
 rintro a w ⟨l,h,g,hS,hM⟩
 unfold gR at hM
 refine ai hS fun a hS=>?_
 cases hM
 refine aF hS rfl (ar hS rfl aH) ?_
 exact ⟨h,g,rfl,hS.retOwn ⟨.inr (List.mem_of_getElem? (i:=0) rfl),trivial⟩ 0 rfl 0 rfl⟩
def dJ:Option Bool:=(dY).bind fun b=>some (b)
def fk (g:Int) (e:LN) (f:Int) (b:Int) (c:LI) (d:LR):Option (Fl (Int×LN×Int×Int×LI×LR) (Fl (Unit) Bool)):=some (.go (IntKind.i64.wrap (g + 1),e,f,b,c,d))
def bY (e:Int) (c:(LC×aQ)) (b:(ah×Int)) (d:Bool):Option (Fl (Int×LN×Int×Int×LI×LR) (Fl (Unit) Bool)):=cond d (some (.out (.out false))) (fk e c.2.L c.2.At b.1.Revision b.1.Inputs b.1.Records)
def dK (e:Int) (d:Int) (g:LI) (h:LR) (f:(LC×aQ)) (b:(ah×Int)) (c:Bool):Option (Fl (Int×LN×Int×Int×LI×LR) (Fl (Unit) Bool)):=cond (c != ((b.1.Revision:Int) == (IntKind.i64.wrap (d + 1)))) (bY e f b true) (cond (!(c)) ((jy (ah.mk b.1.Revision b.1.Inputs b.1.Records) (ah.mk d g h)).bind fun i=>cond (!(i)) (bY e f b true) ((cV (ah.mk b.1.Revision b.1.Inputs b.1.Records) d).bind fun j=>bY e f b (c != (decide ((0:Int) < (j.length:Int)))))) ((cV (ah.mk b.1.Revision b.1.Inputs b.1.Records) d).bind fun k=>bY e f b (c != (decide ((0:Int) < (k.length:Int))))))
def fm (c:Int) (b:Bool):Option (Fl (Bool×Int) (Fl (Bool) Bool)):=some (.go (b,IntKind.i64.wrap (c + 1)))
def cU (b:(ah×Int)) (e:Int) (c:ae) (i:ByteArray) (d:Bool) (f:Int):Option (Fl (Bool×Int) (Fl (Bool) Bool)):=(bL (ah.mk b.1.Revision b.1.Inputs b.1.Records) c).bind fun g=>cond (!(g.toList == i.toList)) (some (.out (.out false))) ((cC (ah.mk b.1.Revision b.1.Inputs b.1.Records) c).bind fun h=>cond ((h:Int) != f) (some (.out (.out false))) (fm e d))
def cA (g:Int) (h:LI) (i:LR) (b:(ah×Int)) (f:Int) (c:ae) (d:ByteArray) (j:ByteArray) (e:Bool):Option (Fl (Bool×Int) (Fl (Bool) Bool)):=(cC (ah.mk g h i) c).bind fun k=>cond (!(d.toList == j.toList)) (cU b f c d e b.1.Revision) (cU b f c d e k)
def dL (b:Int) (c:LI) (d:LR) (i:(ah×Int)) (j:Bool) (h:Int) (e:ae) (g:ByteArray):Option (Fl (Bool×Int) (Fl (Bool) Bool)):=(bL (ah.mk b c d) e).bind fun f=>cond j (cA b c d i h e g f true) (cA b c d i h e g f (!(g.toList == f.toList)))
def dM (b:Int) (c:ByteArray):Option (Fl (ByteArray×Int) (ByteArray)):=some (.go (c,IntKind.i64.wrap (b + 1)))
def cM (d:(LC×aQ)) (e:ae) (f:ByteArray) (b:Int):Option (Fl (ByteArray×Int) (ByteArray)):=cond (decide ((b:Int) < (d.1.length:Int))) ((bm d.1 b).bind fun c=>cond ((c.Key.Kind:Int) == e.Kind && c.Key.Text.toList == e.Text.toList) (dM b c.Value) (dM b f)) (some (.out f))
def cp (e:Int) (f:LI) (g:LR) (h:(LC×aQ)) (i:(ah×Int)) (d:Bool) (b:Int):Option (Fl (Bool×Int) (Fl (Bool) Bool)):=cond (decide ((b:Int) < 5)) ((cZ b).bind fun c=>(bL (ah.mk e f g) c).bind fun j=>(loop (fun s:ByteArray×Int=>cM h c s.1 s.2) (j,0)).bind fun r=>dL e f g i d b c r) (some (.out (.go d)))
def eY (g:Int) (h:LN) (i:Int) (d:Int) (e:LI) (c:LR):Option (Fl (Int×LN×Int×Int×LI×LR) (Fl (Unit) Bool)):=cond (decide ((g:Int) < 12)) ((gt (aQ.mk h i) 3).bind fun f=>(cc (ah.mk d e c) f.1).bind fun b=>cond ((b.2:Int) != 0) (some (.out (.out false))) ((ik (ah.mk b.1.Revision b.1.Inputs b.1.Records)).bind fun j=>cond (!(j)) (some (.out (.out false))) (cond (((b.1.Records.length:Int):Int) != (c.length:Int)) (some (.out (.out false))) ((loop (fun s:Bool×Int=>cp d e c f b s.1 s.2) (false,0)).bind fun r=>Fl.el r (fun s=>dK g d e c f b s) (fun y=>some (.out (.out y))))))) (some (.out (.go ())))
def dW (c:LN):Option Bool:=(gG c).bind fun d=>cond (!(d)) ((dY).bind fun e=>some (e)) ((n3 c).bind fun f=>(lx f 3).bind fun b=>(loop (fun s:Int×LN×Int×Int×LI×LR=>eY s.1 s.2.1 s.2.2.1 s.2.2.2.1 s.2.2.2.2.1 s.2.2.2.2.2) (0,b.2.2.L,b.2.2.At,b.2.1.Revision,b.2.1.Inputs,b.2.1.Records)).bind fun r=>Fl.el r (fun s=>dJ) (fun y=>some (y)))
theorem qj (T:Nat→Prop) (W0:World) (hT:TW T W0) (hLv:c6 T W0) (a4:LN) (v1:Value) (f4:aB (aR.int .i64) T W0 v1 a4) (y:Bool) (hM:dW a4=some y):aY Tryz.prog No 5 [v1] W0 (fun v w'=>v = .bool y):=by
 refine en Tryz.func5 Tryz.ntmps5 hT fun a hS=>?_
 replace hS:=hS.fact bu (c6.dn hLv)
 replace hS:=hS.fS (aB.dn f4)
 unfold dW at hM
 refine ai hS fun a hS=>?_
 refine aw ?_
 refine ai hS fun a hS=>?_
 obtain ⟨gi,cv,hM⟩:=bd hM
 refine kc hS HU (nS _ _ hS.dlt a4 _ (hS.get 0 rfl) _ cv) fun _ w hR a hk hA=>?_
 obtain rfl:=hR
 have hS:=bM hA
 refine ai hS fun a hS=>?_
 rcases cd hM with ⟨d6,hM⟩ | ⟨d6,hM⟩
 ·refine ai hS fun a hS=>?_
  obtain ⟨gp,d0,hM⟩:=bd hM
  refine kc hS Em (ft _ _ hS.dlt (hS.get 1 rfl) _ d0) fun _ w hR a hk hA=>?_
  obtain rfl:=hR
  have hS:=bM hA
  exact fz
 refine ai hS fun a hS=>?_
 obtain ⟨bs,d1,hM⟩:=bd hM
 refine kc hS HV (oS _ _ hS.dlt a4 _ (hS.get 0 rfl) _ d1) fun _ w hR a hk hA=>?_
 obtain ⟨g,ea,he,ex,ax,b1⟩:=hR
 obtain rfl:=he.symm
 have hS:=hA [.box g (aU bs ea) 55] (gS ax (fun k hk=>by simp only [cx.dom,Option.some.injEq] at hk; omega)) (s4 _)
 replace hS:=hS.fS (b1.sub (jk _))
 refine ai hS fun a hS=>?_
 obtain ⟨e8,d2,hM⟩:=bd hM
 refine wl rfl (bR hS CT rfl rfl 0 rfl (oR _ _ (hS.drop 0).dlt bs 3 _ _ (hS.boxRow 0 rfl) (hS.notin 0 rfl) (aB.lent (i:=0) rfl (hS.get 0 rfl)) (bu.keep (hS.get 2 rfl) (Kt.refl _ _) (fun k hk=>.inl ((mz (i:=0) rfl k).1 hk))) _ d2) fun _ w hR hk=>?_)
 obtain ⟨gs,gu,h0,ed,he,b2,b3,b4,hrow,b5⟩:=hR
 obtain rfl:=he.symm
 refine ⟨(aU e8.2.2 ed),hrow,fun a hS=>?_⟩
 replace hS:=hS.fS (aB.back (i:=0) rfl b2)
 replace hS:=hS.fS (aB.back (i:=0) rfl b3)
 replace hS:=hS.fS (aB.back (i:=0) rfl b4)
 replace hS:=hS.fS (aB.back (i:=0) rfl b5)
 refine ai hS fun a hS=>?_
 refine ka hS jP fun h fn a w hk hS=>?_
 refine go hS fun a w hS=>?_
 refine aI (J:=fun a w=>St W0 No T 136 [] [] [bu] a w∧dJ=some y) ?_ ?_
 ·skip
  refine ai hS fun a hS=>?_
  obtain ⟨r1,ez,hMo1⟩:=bd hM
  refine bB _ (fun s a w=>∃ (u:Int) (F:LN) (G:Int) (d:Int) (e:LI) (f:LR) (Z:Value) (j:Value) (l:Value),(u,F,G,d,e,f)=s∧St W0 No T 136 [(3,pt g 0),(5,pt h 0),(6,.int .i64 u)] [.box g [Z,.int .i64 G] 55,.box h [.int .i64 d,j,l] 31] [aJ (aR.int .i64) Z F,aJ ac j e,aJ aa l f,bu] a w) ez ⟨_,_,_,_,_,_,_,_,_,rfl,hS.mt [1,0] [0,2,1,6]⟩ ?_
  rintro s a w f1 ⟨u,F,G,d,e,f,Z,j,l,rfl,hS⟩ hM hf1
  have hM:eY u F G d e f=some f1:=hM
  unfold eY at hM
  refine aw ?_
  refine ai hS fun a hS=>?_
  rcases cd hM with ⟨dc,hM⟩ | ⟨dc,hM⟩
  ·refine ai hS fun a hS=>?_
   refine aI (J:=fun a w=>∃ (U:LN) (V:Int) (M:Int) (N:LI) (O:LR) (a0:Value) (P:LV) (a1:Value) (Q:LV) (a2:Value),St W0 No T 136 [(3,pt g 0),(5,pt h 0),(6,.int .i64 u)] [.box g [a2,.int .i64 V] 55,aP a0 P,aE a1 Q,.box h [.int .i64 M,a0,a1] 31] [aJ (aR.int .i64) a2 U,am ac P N,am aa Q O,bu] a w∧fk u U V M N O=some f1) ?_ ?_
   ·skip
    refine ai hS fun a hS=>?_
    obtain ⟨c,c2,hM⟩:=bd hM
    refine wl rfl (nq hS CU rfl rfl 0 rfl (lX _ _ (hS.drop 0).dlt (aQ.mk F G) 3 _ _ (hS.boxRow 0 rfl) (hS.notin 0 rfl) (aB.lent (i:=0) rfl (hS.get 0 rfl)) (bu.keep (hS.get 3 rfl) (Kt.refl _ _) (fun k hk=>.inl ((mz (i:=0) rfl k).1 hk))) _ c2) fun _ w hR hk=>?_)
    obtain ⟨m,S,n,he,⟨ay,ak,b6⟩,hrow,b8⟩:=hR
    obtain rfl:=he.symm
    refine ⟨(aU c.2 n),[fc m S],hrow,gS ⟨ay,by decide⟩ ak,s4 _,fun a hS=>?_⟩
    replace hS:=hS.fR (b6.keep (Kt.refl _ _) (Nw.back2 (i:=0) rfl [fc m S] _))
    replace hS:=hS.fS (b8.sub (Nw.back2 (i:=0) rfl [fc m S] _))
    refine ai hS fun a hS=>?_
    replace hS:=hS.freeze (R:=aK) 0 rfl 1 rfl
    obtain ⟨b,c3,hM⟩:=bd hM
    refine kc hS xO (dD _ _ hS.dlt (hS.get 6 rfl) (ah.mk d e f) c.1 _ _ _ (hS.get 4 rfl) (hS.get 5 rfl) (hS.get 0 rfl) _ c3) fun _ w hR a hk hA=>?_
    obtain ⟨r,p,t,q,he,b9,bb,et⟩:=hR
    obtain rfl:=he.symm
    have hS:=sZ hA b9 bb et
    refine ai hS fun a hS=>?_
    refine ka hS jP fun o fr a w hk hS=>?_
    refine go hS fun a w hS=>?_
    refine aw ?_
    refine jO ?_
    refine ai hS fun a hS=>?_
    rcases cd hM with ⟨ab,hM⟩ | ⟨ab,hM⟩
    ·exact fz
    refine ai hS fun a hS=>?_
    have hL:=hS
    replace hL:=hL.freeze (R:=ac) 1 rfl 1 rfl
    replace hL:=hL.freeze (R:=aa) 1 rfl 1 rfl
    obtain ⟨gb,cs,hM⟩:=bd hM
    refine wg hS rfl rfl rfl ab (a7 hS GR rfl rfl (pC _ _ hL.dlt (hL.get 10 rfl) (ah.mk b.1.Revision b.1.Inputs b.1.Records) _ _ (hL.get 1 rfl) (hL.get 0 rfl) _ cs) fun _ w hR a hk hA=>?_)
    obtain rfl:=hR
    have hS:=bM hA
    refine ai hS fun a hS=>?_
    rcases cd hM with ⟨di,hM⟩ | ⟨di,hM⟩
    ·exact fz
    refine ai hS fun a hS=>?_
    rcases cd hM with ⟨dl,hM⟩ | ⟨dl,hM⟩
    ·exact fz
    refine ai hS fun a hS=>?_
    refine aI (J:=fun a w=>∃ (I:Bool),St W0 No T 136 [(3,pt g 0),(5,pt h 0),(6,.int .i64 u),(8,pt o 0),(10,.bool I)] [.box g (aU c.2 n) 55,.box h [.int .i64 d,j,l] 31,aP r p,aE t q,.box o (aO b.1 r t) 31] [aJ (aR.int .i64) n c.2.L,aJ ac j e,aJ aa l f,am ac p b.1.Inputs,am aa q b.1.Records,bu] a w∧dK u d e f c b I=some f1) ?_ ?_
    ·skip
     refine ai hS fun a hS=>?_
     obtain ⟨r2,eT,hMo2⟩:=bd hM
     refine bB _ (fun s a w=>∃ (B:Bool) (z:Int),(B,z)=s∧St W0 No T 136 [(3,pt g 0),(5,pt h 0),(6,.int .i64 u),(7,m),(8,pt o 0),(10,.bool B),(57,.int .i64 z)] [.box g (aU c.2 n) 55,.box h [.int .i64 d,j,l] 31,aP r p,aE t q,.box o (aO b.1 r t) 31] [aJ aK m c.1,aJ (aR.int .i64) n c.2.L,aJ ac j e,aJ aa l f,am ac p b.1.Inputs,am aa q b.1.Records,bu] a w) eT ⟨_,_,rfl,hS.mt [3,4,1,2,0] [2,3,6,7,1,0,8]⟩ ?_
     rintro s a w f2 ⟨B,z,rfl,hS⟩ hM hf2
     have hM:cp d e f c b B z=some f2:=hM
     unfold cp at hM
     refine ai hS fun a hS=>?_
     refine aw ?_
     rcases cd hM with ⟨ds,hM⟩ | ⟨ds,hM⟩
     ·refine ai hS fun a hS=>?_
      refine aI (J:=fun a w=>∃ (K:Bool),St W0 No T 136 [(3,pt g 0),(5,pt h 0),(6,.int .i64 u),(7,m),(8,pt o 0),(10,.bool K),(57,.int .i64 z)] [.box g (aU c.2 n) 55,.box h [.int .i64 d,j,l] 31,aP r p,aE t q,.box o (aO b.1 r t) 31] [aJ aK m c.1,aJ (aR.int .i64) n c.2.L,aJ ac j e,aJ aa l f,am ac p b.1.Inputs,am aa q b.1.Records,bu] a w∧fm z K=some f2) ?_ ?_
      ·skip
       refine ai hS fun a hS=>?_
       obtain ⟨x,ca,hM⟩:=bd hM
       refine kc hS vD (eG _ _ hS.dlt (hS.get 6 rfl) z _ ca) fun _ w hR a hk hA=>?_
       obtain rfl:=hR
       have hS:=bM hA
       refine ka hS gM fun A fs a w hk hS=>?_
       refine go hS fun a w hS=>?_
       obtain ⟨g8,co,hM⟩:=bd hM
       refine kc hS uB (cP _ _ hS.dlt (hS.get 6 rfl) (ah.mk d e f) x _ _ (hS.get 2 rfl) (hS.get 3 rfl) _ co) fun _ w hR a hk hA=>?_
       obtain rfl:=hR
       have hS:=bM hA
       refine ai hS fun a hS=>?_
       refine aI (J:=fun a w=>∃ (C:ByteArray),St W0 No T 136 [(3,pt g 0),(5,pt h 0),(6,.int .i64 u),(7,m),(8,pt o 0),(10,.bool B),(12,pt A 0),(13,.string C),(57,.int .i64 z)] [.box g (aU c.2 n) 55,.box h [.int .i64 d,j,l] 31,aP r p,aE t q,.box o (aO b.1 r t) 31,.box A (aS x) 35] [aJ aK m c.1,aJ (aR.int .i64) n c.2.L,aJ ac j e,aJ aa l f,am ac p b.1.Inputs,am aa q b.1.Records,bu] a w∧dL d e f b B z x C=some f2) ?_ ?_
       ·skip
        refine ai hS fun a hS=>?_
        obtain ⟨r3,eX,e5⟩:=bd hM
        refine bB _ (fun s a w=>∃ (H:ByteArray) (D:Int),(H,D)=s∧St W0 No T 136 [(3,pt g 0),(5,pt h 0),(6,.int .i64 u),(7,m),(8,pt o 0),(10,.bool B),(12,pt A 0),(13,.string H),(57,.int .i64 z),(65,m),(66,.int .i64 (c.1.length:Int)),(67,.int .i64 D)] [.box g (aU c.2 n) 55,.box h [.int .i64 d,j,l] 31,aP r p,aE t q,.box o (aO b.1 r t) 31,.box A (aS x) 35] [aJ aK m c.1,aJ (aR.int .i64) n c.2.L,aJ ac j e,aJ aa l f,am ac p b.1.Inputs,am aa q b.1.Records,bu] a w) eX ⟨_,_,rfl,hS.mt [1,2,3,4,5,0] [0,1,2,3,4,5,6]⟩ ?_
        rintro s a w f3 ⟨H,D,rfl,hS⟩ hM ey
        have hM:cM c x H D=some f3:=hM
        unfold cM at hM
        refine ai hS fun a hS=>?_
        refine aw ?_
        rcases cd hM with ⟨e0,hM⟩ | ⟨e0,hM⟩
        ·refine ai hS fun a hS=>?_
         refine aI (J:=fun a w=>∃ (a3:ByteArray),St W0 No T 136 [(3,pt g 0),(5,pt h 0),(6,.int .i64 u),(7,m),(8,pt o 0),(10,.bool B),(12,pt A 0),(13,.string a3),(57,.int .i64 z),(65,m),(66,.int .i64 (c.1.length:Int)),(67,.int .i64 D)] [.box g (aU c.2 n) 55,.box h [.int .i64 d,j,l] 31,aP r p,aE t q,.box o (aO b.1 r t) 31,.box A (aS x) 35] [aJ aK m c.1,aJ (aR.int .i64) n c.2.L,aJ ac j e,aJ aa l f,am ac p b.1.Inputs,am aa q b.1.Records,bu] a w∧dM D a3=some f3) ?_ ?_
         ·skip
          refine ai hS fun a hS=>?_
          obtain ⟨a9,c0,hM⟩:=bd hM
          refine wl rfl (bf (R:=aK) hS vT vU rfl rfl 0 rfl c0 rfl fun f6 g0 fl e2 a hS=>?_)
          obtain rfl:=e2
          refine ai hS fun a hS=>?_
          refine ka hS pb fun fd fM a w hk hS=>?_
          refine go hS fun a w hS=>?_
          refine wl rfl (ky (v:=.bool ((a9.Key.Kind:Int) == x.Kind && a9.Key.Text.toList == x.Text.toList)) hS (wW hS rfl rfl) rfl rfl fun a hS=>?_)
          exact fz
         rintro a w ⟨a3,hS,hM⟩
         unfold dM at hM
         exact fz
        refine ai hS fun a hS=>?_
        cases hM
        have hr:=ey _ rfl
        subst hr
        have hM:dL d e f b B z x H=some f2:=e5
        exact ⟨_,hS.mt [0,1,2,3,4,5] [0,1,2,3,4,5,6],hM⟩
       rintro a w ⟨C,hS,hM⟩
       unfold dL at hM
       refine ai hS fun a hS=>?_
       obtain ⟨bq,ck,hM⟩:=bd hM
       refine kc hS uB (cP _ _ hS.dlt (hS.get 6 rfl) (ah.mk d e f) x _ _ (hS.get 2 rfl) (hS.get 3 rfl) _ ck) fun _ w hR a hk hA=>?_
       obtain rfl:=hR
       have hS:=bM hA
       refine ai hS fun a hS=>?_
       refine aI (J:=fun a w=>∃ (E:Bool),St W0 No T 136 [(3,pt g 0),(5,pt h 0),(6,.int .i64 u),(7,m),(8,pt o 0),(10,.bool E),(12,pt A 0),(13,.string C),(16,.bool (!(C.toList == bq.toList))),(57,.int .i64 z)] [.box g (aU c.2 n) 55,.box h [.int .i64 d,j,l] 31,aP r p,aE t q,.box o (aO b.1 r t) 31,.box A (aS x) 35] [aJ aK m c.1,aJ (aR.int .i64) n c.2.L,aJ ac j e,aJ aa l f,am ac p b.1.Inputs,am aa q b.1.Records,bu] a w∧cA d e f b z x C bq E=some f2) ?_ ?_
       ·exact fz
       rintro a w ⟨E,hS,hM⟩
       unfold cA at hM
       refine ai hS fun a hS=>?_
       obtain ⟨g7,cl,hM⟩:=bd hM
       refine kc hS CV (kh _ _ hS.dlt (hS.get 6 rfl) (ah.mk d e f) x _ _ (hS.get 2 rfl) (hS.get 3 rfl) _ cl) fun _ w hR a hk hA=>?_
       obtain rfl:=hR
       have hS:=bM hA
       refine ai hS fun a hS=>?_
       refine aI (J:=fun a w=>∃ (Y:Int),St W0 No T 136 [(3,pt g 0),(5,pt h 0),(6,.int .i64 u),(7,m),(8,pt o 0),(10,.bool E),(12,pt A 0),(13,.string C),(17,.int .i64 Y),(57,.int .i64 z)] [.box g (aU c.2 n) 55,.box h [.int .i64 d,j,l] 31,aP r p,aE t q,.box o (aO b.1 r t) 31,.box A (aS x) 35] [aJ aK m c.1,aJ (aR.int .i64) n c.2.L,aJ ac j e,aJ aa l f,am ac p b.1.Inputs,am aa q b.1.Records,bu] a w∧cU b z x C E Y=some f2) ?_ ?_
       ·exact fz
       rintro a w ⟨Y,hS,hM⟩
       unfold cU at hM
       refine jO ?_
       refine ai hS fun a hS=>?_
       have hL:=hS
       replace hL:=hL.freeze (R:=ac) 2 rfl 4 rfl
       replace hL:=hL.freeze (R:=aa) 2 rfl 6 rfl
       obtain ⟨g5,cb,hM⟩:=bd hM
       refine kc hS uB (cP _ _ hL.dlt (hL.get 8 rfl) (ah.mk b.1.Revision b.1.Inputs b.1.Records) x _ _ (hL.get 1 rfl) (hL.get 0 rfl) _ cb) fun _ w hR a hk hA=>?_
       obtain rfl:=hR
       have hS:=bM hA
       refine ai hS fun a hS=>?_
       rcases cd hM with ⟨af,hM⟩ | ⟨af,hM⟩
       ·refine ai hS fun a hS=>?_
        cases hM
        have hr:=hf2 _ rfl
        subst hr
        replace hMo2:=gT hMo2
        have hM:=hMo2
        cases hM
        have hr:=hf1 _ rfl
        subst hr
        replace hMo1:=gT hMo1
        have hM:=hMo1
        cases hM
        refine aF hS rfl (ar hS rfl aH) ?_
        exact rfl
       refine ai hS fun a hS=>?_
       have hL:=hS
       replace hL:=hL.freeze (R:=ac) 2 rfl 4 rfl
       replace hL:=hL.freeze (R:=aa) 2 rfl 6 rfl
       obtain ⟨g6,ch,hM⟩:=bd hM
       refine wg hS rfl rfl rfl af (a7 hS CV rfl rfl (kh _ _ hL.dlt (hL.get 8 rfl) (ah.mk b.1.Revision b.1.Inputs b.1.Records) x _ _ (hL.get 1 rfl) (hL.get 0 rfl) _ ch) fun _ w hR a hk hA=>?_)
       obtain rfl:=hR
       have hS:=bM hA
       refine ai hS fun a hS=>?_
       rcases cd hM with ⟨e3,hM⟩ | ⟨e3,hM⟩
       ·refine ai hS fun a hS=>?_
        cases hM
        have hr:=hf2 _ rfl
        subst hr
        replace hMo2:=gT hMo2
        have hM:=hMo2
        cases hM
        have hr:=hf1 _ rfl
        subst hr
        replace hMo1:=gT hMo1
        have hM:=hMo1
        cases hM
        refine aF hS rfl (ar hS rfl aH) ?_
        exact rfl
       exact fz
      rintro a w ⟨K,hS,hM⟩
      unfold fm at hM
      exact fz
     exact fz
    rintro a w ⟨I,hS,hM⟩
    unfold dK at hM
    refine aw ?_
    refine aI (J:=fun a w=>∃ (W:Bool),St W0 No T 136 [(3,pt g 0),(5,pt h 0),(6,.int .i64 u),(8,pt o 0),(133,.bool W)] [.box g (aU c.2 n) 55,.box h [.int .i64 d,j,l] 31,aP r p,aE t q,.box o (aO b.1 r t) 31] [aJ (aR.int .i64) n c.2.L,aJ ac j e,aJ aa l f,am ac p b.1.Inputs,am aa q b.1.Records,bu] a w∧bY u c b W=some f1) ?_ ?_
    ·skip
     refine ai hS fun a hS=>?_
     refine qy hS (qQ hS rfl rfl Tryz.underlying4 (.inr ⟨rfl,rfl⟩)) fun a hS=>?_
     refine ai hS fun a hS=>?_
     rcases cd hM with ⟨e4,hM⟩ | ⟨e4,hM⟩
     ·exact fz
     refine ai hS fun a hS=>?_
     rcases cd hM with ⟨ag,hM⟩ | ⟨ag,hM⟩
     ·refine ai hS fun a hS=>?_
      have hL:=hS
      replace hL:=hL.freeze (R:=ac) 2 rfl 3 rfl
      replace hL:=hL.freeze (R:=aa) 2 rfl 5 rfl
      obtain ⟨g2,c4,hM⟩:=bd hM
      refine wg hS rfl rfl rfl ag (a7 hS EK rfl rfl (pU _ _ hL.dlt (ah.mk b.1.Revision b.1.Inputs b.1.Records) (ah.mk d e f) _ _ _ _ (hL.get 1 rfl) (hL.get 0 rfl) (hL.get 3 rfl) (hL.get 4 rfl) _ c4) fun _ w hR a hk hA=>?_)
      obtain rfl:=hR
      have hS:=bM hA
      refine ai hS fun a hS=>?_
      rcases cd hM with ⟨X,hM⟩ | ⟨X,hM⟩
      ·exact fz
      refine ai hS fun a hS=>?_
      have hL:=hS
      replace hL:=hL.freeze (R:=ac) 2 rfl 3 rfl
      replace hL:=hL.freeze (R:=aa) 2 rfl 5 rfl
      obtain ⟨g3,c5,hM⟩:=bd hM
      refine wg hS rfl rfl rfl X (a7 hS Bl rfl rfl (fX _ _ hL.dlt (ah.mk b.1.Revision b.1.Inputs b.1.Records) d _ _ (hL.get 1 rfl) (hL.get 0 rfl) _ c5) fun _ w hR a hk hA=>?_)
      obtain ⟨el,d3,he,⟨az,ao,bi⟩⟩:=hR
      obtain rfl:=he.symm
      have hS:=hA [au el d3] (gS ⟨az,by decide⟩ ao) (s4 _)
      replace hS:=hS.fR bi
      refine ai hS fun a hS=>?_
      refine qg hS X (qQ hS rfl rfl Tryz.underlying4 (.inr ⟨rfl,rfl⟩)) fun a hS=>?_
      exact fz
     refine ai hS fun a hS=>?_
     have hL:=hS
     replace hL:=hL.freeze (R:=ac) 2 rfl 3 rfl
     replace hL:=hL.freeze (R:=aa) 2 rfl 5 rfl
     obtain ⟨g4,c9,hM⟩:=bd hM
     refine wg hS rfl rfl rfl rfl (a7 hS Bl rfl rfl (fX _ _ hL.dlt (ah.mk b.1.Revision b.1.Inputs b.1.Records) d _ _ (hL.get 1 rfl) (hL.get 0 rfl) _ c9) fun _ w hR a hk hA=>?_)
     obtain ⟨eq,d4,he,⟨b0,av,bl⟩⟩:=hR
     obtain rfl:=he.symm
     have hS:=hA [au eq d4] (gS ⟨b0,by decide⟩ av) (s4 _)
     replace hS:=hS.fR bl
     refine ai hS fun a hS=>?_
     refine qg hS rfl (qQ hS rfl rfl Tryz.underlying4 (.inr ⟨rfl,rfl⟩)) fun a hS=>?_
     exact fz
    rintro a w ⟨W,hS,hM⟩
    unfold bY at hM
    exact fz
   rintro a w ⟨U,V,M,N,O,a0,P,a1,Q,a2,hS,hM⟩
   unfold fk at hM
   refine ai hS fun a hS=>?_
   replace hS:=hS.freeze (R:=ac) 1 rfl 1 rfl
   replace hS:=hS.freeze (R:=aa) 1 rfl 3 rfl
   exact ⟨_,(Option.some.inj hM).symm,_,_,_,_,_,_,_,_,_,rfl,hS.mt [0,1] [2,1,0,5]⟩
  exact fz
 rintro a w ⟨hS,hM⟩
 unfold dJ at hM
 refine ai hS fun a hS=>?_
 obtain ⟨g1,c1,hM⟩:=bd hM
 refine kc hS Em (ft _ _ hS.dlt (hS.get 0 rfl) _ c1) fun _ w hR a hk hA=>?_
 obtain rfl:=hR
 have hS:=bM hA
 exact fz
def eF (b:Bool):Option Bool:=some (b)
def dj (b:(LU×ah×aQ)):Option Bool:=(cV (ah.mk b.2.1.Revision b.2.1.Inputs b.2.1.Records) b.2.1.Revision).bind fun c=>cond (((c.length:Int):Int) == 0) ((dY).bind fun d=>eF d) (eF false)
def dm (e:LK) (c:LK) (b:Int):Option (Fl (Int) (Fl (Unit) Bool)):=cond (decide ((b:Int) < (c.length:Int))) ((bm c b).bind fun d=>(iY e d).bind fun f=>cond (!(f)) (some (.out (.out false))) (some (.go (IntKind.i64.wrap (b + 1))))) (some (.out (.go ())))
def dk (b:(LU×ah×aQ)) (c:LK) (d:LK):Option Bool:=(loop (fun s:Int=>dm c d s) 0).bind fun r=>Fl.el r (fun s=>dj b) (fun y=>some (y))
def bT (b:Int) (c:Bool):Option (Fl (Int) (Fl (Unit) Bool)):=cond c (some (.out (.out false))) (some (.go (IntKind.i64.wrap (b + 1))))
def dp (c:(LU×ah×aQ)) (d:Int) (g:LK) (b:Int):Option (Fl (Int) (Fl (Unit) Bool)):=cond (decide ((b:Int) < 5)) ((cZ b).bind fun e=>(cC (ah.mk c.2.1.Revision c.2.1.Inputs c.2.1.Records) e).bind fun f=>(iY g e).bind fun h=>cond h (bT b ((decide ((IntKind.i64.wrap (d - 1):Int) < f)) != true)) (cond (decide ((IntKind.i64.wrap (d - 1):Int) < 0)) ((bL (ah.mk c.2.1.Revision c.2.1.Inputs c.2.1.Records) e).bind fun i=>cond (i.toList == (ByteArray.mk #[]).toList) ((iY g e).bind fun j=>bT b ((decide ((IntKind.i64.wrap (d - 1):Int) < f)) != (!(j)))) (bT b ((decide ((IntKind.i64.wrap (d - 1):Int) < f)) != false))) (bT b ((decide ((IntKind.i64.wrap (d - 1):Int) < f)) != false)))) (some (.out (.go ())))
def dd (e:LN) (j:Int):Option Bool:=(gG e).bind fun g=>cond (!(g)) ((dY).bind fun h=>some (h)) ((n3 e).bind fun i=>(lx i 8).bind fun b=>(ot j (IntKind.i64.wrap (b.2.1.Revision + 2))).bind fun c=>(cV (ah.mk b.2.1.Revision b.2.1.Inputs b.2.1.Records) (IntKind.i64.wrap (c - 1))).bind fun d=>(cV (ah.mk b.2.1.Revision b.2.1.Inputs b.2.1.Records) (IntKind.i64.wrap ((IntKind.i64.wrap (c - 1)) + 1))).bind fun f=>(loop (fun s:Int=>dp b c d s) 0).bind fun r=>Fl.el r (fun s=>dk b d f) (fun y=>some (y)))
theorem py (T:Nat→Prop) (W0:World) (hT:TW T W0) (hLv:c6 T W0) (z:LN) (P:Int) (v1:Value) (b6:aB (aR.int .i64) T W0 v1 z) (y:Bool) (hM:dd z P=some y):aY Tryz.prog No 6 [v1,.int .i64 P] W0 (fun v w'=>v = .bool y):=by
 refine en Tryz.func6 Tryz.ntmps6 hT fun a hS=>?_
 replace hS:=hS.fact bu (c6.dn hLv)
 replace hS:=hS.fS (aB.dn b6)
 unfold dd at hM
 refine ai hS fun a hS=>?_
 refine aw ?_
 refine ai hS fun a hS=>?_
 obtain ⟨ch,ab,hM⟩:=bd hM
 refine kc hS HU (nS _ _ hS.dlt z _ (hS.get 0 rfl) _ ab) fun _ w hR a hk hA=>?_
 obtain rfl:=hR
 have hS:=bM hA
 refine ai hS fun a hS=>?_
 rcases cd hM with ⟨ao,hM⟩ | ⟨ao,hM⟩
 ·refine ai hS fun a hS=>?_
  obtain ⟨ck,af,hM⟩:=bd hM
  refine kc hS Em (ft _ _ hS.dlt (hS.get 1 rfl) _ af) fun _ w hR a hk hA=>?_
  obtain rfl:=hR
  have hS:=bM hA
  exact fz
 refine ai hS fun a hS=>?_
 obtain ⟨Q,ag,hM⟩:=bd hM
 refine kc hS HV (oS _ _ hS.dlt z _ (hS.get 0 rfl) _ ag) fun _ w hR a hk hA=>?_
 obtain ⟨ak,b3,he,b5,E,F⟩:=hR
 obtain rfl:=he.symm
 have hS:=hA [.box ak (aU Q b3) 55] (gS E (fun k hk=>by simp only [cx.dom,Option.some.injEq] at hk; omega)) (s4 _)
 replace hS:=hS.fS (F.sub (jk _))
 obtain ⟨b,V,hM⟩:=bd hM
 refine wl rfl (bR hS CT rfl rfl 0 rfl (oR _ _ (hS.drop 0).dlt Q 8 _ _ (hS.boxRow 0 rfl) (hS.notin 0 rfl) (aB.lent (i:=0) rfl (hS.get 0 rfl)) (bu.keep (hS.get 2 rfl) (Kt.refl _ _) (fun k hk=>.inl ((mz (i:=0) rfl k).1 hk))) _ V) fun _ w hR hk=>?_)
 obtain ⟨cl,e,f,b4,he,G,H,I,hrow,K⟩:=hR
 obtain rfl:=he.symm
 refine ⟨(aU b.2.2 b4),hrow,fun a hS=>?_⟩
 replace hS:=hS.fS (aB.back (i:=0) rfl G)
 replace hS:=hS.fS (aB.back (i:=0) rfl H)
 replace hS:=hS.fS (aB.back (i:=0) rfl I)
 replace hS:=hS.fS (aB.back (i:=0) rfl K)
 refine ai hS fun a hS=>?_
 refine ka hS jP fun c bs a w hk hS=>?_
 refine go hS fun a w hS=>?_
 obtain ⟨g,a1,hM⟩:=bd hM
 refine kc hS GS (u5 _ _ hS.dlt P (IntKind.i64.wrap (b.2.1.Revision + 2)) _ a1) fun _ w hR a hk hA=>?_
 obtain rfl:=hR
 have hS:=bM hA
 refine ai hS fun a hS=>?_
 refine aw ?_
 refine dr [] hS fun w hQ hS=>?_
 refine gE [0,1,3,4,5] hS fun a hS=>?_
 obtain ⟨d,Y,hM⟩:=bd hM
 refine ec 2 hS Bl (fX _ _ hS.dlt (ah.mk b.2.1.Revision b.2.1.Inputs b.2.1.Records) (IntKind.i64.wrap (g - 1)) _ _ (hS.get 2 rfl) (hS.get 1 rfl) _ Y) fun _ w hR a hk hA=>?_
 obtain ⟨m,j,he,L⟩:=hR
 obtain rfl:=he.symm
 have hS:=pd hA L
 obtain ⟨p,Z,hM⟩:=bd hM
 refine ec 6 hS Bl (fX _ _ hS.dlt (ah.mk b.2.1.Revision b.2.1.Inputs b.2.1.Records) (IntKind.i64.wrap ((IntKind.i64.wrap (g - 1)) + 1)) _ _ (hS.get 3 rfl) (hS.get 2 rfl) _ Z) fun _ w hR a hk hA=>?_
 obtain ⟨n,l,he,M⟩:=hR
 obtain rfl:=he.symm
 have hS:=pd hA M
 refine gE [7,8] hS fun a hS=>?_
 refine eD ?_
 refine ai hS fun a hS=>?_
 refine aI (J:=fun a w=>St W0 No T 88 [(6,pt c 0),(8,m),(9,n)] [au m j,au n l,.box c (aO b.2.1 e f) 31] [am ad j d,am ad l p,aJ ac e b.2.1.Inputs,aJ aa f b.2.1.Records,bu] a w∧dk b d p=some y) ?_ ?_
 ·skip
  refine ai hS fun a hS=>?_
  obtain ⟨r1,O,hMo1⟩:=bd hM
  refine bB _ (fun s a w=>∃ (o:Int),o=s∧St W0 No T 88 [(6,pt c 0),(7,.int .i64 (IntKind.i64.wrap (g - 1))),(8,m),(9,n),(37,.int .i64 o)] [au m j,au n l,.box c (aO b.2.1 e f) 31] [am ad j d,am ad l p,aJ ac e b.2.1.Inputs,aJ aa f b.2.1.Records,bu] a w) O ⟨_,rfl,hS.mt [1,0,2] [1,0,4,3,8]⟩ ?_
  rintro s a w S ⟨o,rfl,hS⟩ hM hf1
  have hM:dp b g d o=some S:=hM
  unfold dp at hM
  refine ai hS fun a hS=>?_
  refine aw ?_
  rcases cd hM with ⟨av,hM⟩ | ⟨av,hM⟩
  ·refine ai hS fun a hS=>?_
   refine aw ?_
   refine ai hS fun a hS=>?_
   obtain ⟨r,a2,hM⟩:=bd hM
   refine kc hS vD (eG _ _ hS.dlt (hS.get 4 rfl) o _ a2) fun _ w hR a hk hA=>?_
   obtain rfl:=hR
   have hS:=bM hA
   refine ka hS gM fun b9 bt a w hk hS=>?_
   refine go hS fun a w hS=>?_
   refine aI (J:=fun a w=>∃ (x:Bool),St W0 No T 88 [(6,pt c 0),(7,.int .i64 (IntKind.i64.wrap (g - 1))),(8,m),(9,n),(37,.int .i64 o),(66,.bool x)] [au m j,au n l,.box c (aO b.2.1 e f) 31] [am ad j d,am ad l p,aJ ac e b.2.1.Inputs,aJ aa f b.2.1.Records,bu] a w∧bT o x=some S) ?_ ?_
   ·skip
    refine dr [] hS fun w hQ hS=>?_
    refine gE [0,1,3,5,6] hS fun a hS=>?_
    obtain ⟨t,a3,hM⟩:=bd hM
    refine ec 2 hS CV (kh _ _ hS.dlt (hS.get 4 rfl) (ah.mk b.2.1.Revision b.2.1.Inputs b.2.1.Records) r _ _ (hS.get 2 rfl) (hS.get 3 rfl) _ a3) fun _ w hR a hk hA=>?_
    obtain rfl:=hR
    have hS:=bM hA
    refine gE [4] hS fun a hS=>?_
    have hL:=hS
    replace hL:=hL.freeze (R:=ad) 1 rfl 0 rfl
    obtain ⟨ca,a4,hM⟩:=bd hM
    refine ec 7 hS Ar (lA _ _ hL.dlt d r _ (hL.get 0 rfl) _ a4) fun _ w hR a hk hA=>?_
    obtain rfl:=hR
    have hS:=bM hA
    refine gE [8] hS fun a hS=>?_
    rcases cd hM with ⟨ax,hM⟩ | ⟨ax,hM⟩
    ·refine gE [9,10,11,12,13,14,15,16,17,18,19,20,21,22,23] hS fun a hS=>?_
     refine dy 24 (v:=.bool ((decide ((IntKind.i64.wrap (g - 1):Int) < t)) != true)) rfl (by kernel_rfl) (by kernel_rfl) (by kernel_rfl) rfl hQ hS (qQ hS rfl rfl Tryz.underlying4 (.inr ⟨rfl,rfl⟩)) rfl rfl rfl fun a hS=>?_
     refine eD ?_
     exact ⟨_,hS.mt [1,2,3] [0,1,2,3,4],hM⟩
    refine gE [9,10,11] hS fun a hS=>?_
    rcases cd hM with ⟨B,hM⟩ | ⟨B,hM⟩
    ·refine gE [12,13] hS fun a hS=>?_
     obtain ⟨cb,a5,hM⟩:=bd hM
     refine bV (i:=14) rfl (by kernel_rfl) hS rfl rfl rfl B (a7 hS uB rfl rfl (cP _ _ hS.dlt (hS.get 4 rfl) (ah.mk b.2.1.Revision b.2.1.Inputs b.2.1.Records) r _ _ (hS.get 2 rfl) (hS.get 3 rfl) _ a5) fun _ w hR a hk hA=>⟨fx (hk),?_⟩)
     obtain rfl:=hR
     have hS:=bM hA
     refine gE [15,16,17] hS fun a hS=>?_
     rcases cd hM with ⟨C,hM⟩ | ⟨C,hM⟩
     ·refine gE [18,19] hS fun a hS=>?_
      have hL:=hS
      replace hL:=hL.freeze (R:=ad) 1 rfl 0 rfl
      obtain ⟨b2,a9,hM⟩:=bd hM
      refine bV (i:=20) rfl (by kernel_rfl) hS rfl rfl rfl C (a7 hS Ar rfl rfl (lA _ _ hL.dlt d r _ (hL.get 0 rfl) _ a9) fun _ w hR a hk hA=>⟨fx (hk),?_⟩)
      obtain rfl:=hR
      have hS:=bM hA
      refine gE [21,22,23] hS fun a hS=>?_
      refine dy 24 (v:=.bool ((decide ((IntKind.i64.wrap (g - 1):Int) < t)) != (!(b2)))) rfl (by kernel_rfl) (by kernel_rfl) (by kernel_rfl) rfl hQ hS (qQ hS rfl rfl Tryz.underlying4 (.inr ⟨rfl,rfl⟩)) rfl rfl rfl fun a hS=>?_
      refine eD ?_
      exact ⟨_,hS.mt [1,2,3] [0,1,2,3,4],hM⟩
     refine gE [18,19,20,21,22,23] hS fun a hS=>?_
     refine dy 24 (v:=.bool ((decide ((IntKind.i64.wrap (g - 1):Int) < t)) != false)) rfl (by kernel_rfl) (by kernel_rfl) (by kernel_rfl) rfl hQ hS (qQ hS rfl rfl Tryz.underlying4 (.inr ⟨rfl,rfl⟩)) rfl rfl rfl fun a hS=>?_
     refine eD ?_
     exact ⟨_,hS.mt [1,2,3] [0,1,2,3,4],hM⟩
    refine gE [12,13,14,15,16,17,18,19,20,21,22,23] hS fun a hS=>?_
    refine dy 24 (v:=.bool ((decide ((IntKind.i64.wrap (g - 1):Int) < t)) != false)) rfl (by kernel_rfl) (by kernel_rfl) (by kernel_rfl) rfl hQ hS (qQ hS rfl rfl Tryz.underlying4 (.inr ⟨rfl,rfl⟩)) rfl rfl rfl fun a hS=>?_
    refine eD ?_
    exact ⟨_,hS.mt [1,2,3] [0,1,2,3,4],hM⟩
   rintro a w ⟨x,hS,hM⟩
   unfold bT at hM
   exact fz
  exact fz
 rintro a w ⟨hS,hM⟩
 unfold dk at hM
 refine aI (J:=fun a w=>St W0 No T 88 [(6,pt c 0)] [.box c (aO b.2.1 e f) 31] [aJ ac e b.2.1.Inputs,aJ aa f b.2.1.Records,bu] a w∧dj b=some y) ?_ ?_
 ·skip
  refine ai hS fun a hS=>?_
  obtain ⟨r1,O,hMo1⟩:=bd hM
  refine bB _ (fun s a w=>∃ (q:Int),q=s∧St W0 No T 88 [(6,pt c 0),(8,m),(68,n),(69,.int .i64 (p.length:Int)),(70,.int .i64 q)] [au m j,au n l,.box c (aO b.2.1 e f) 31] [am ad j d,am ad l p,aJ ac e b.2.1.Inputs,aJ aa f b.2.1.Records,bu] a w) O ⟨_,rfl,hS.mt [0,1,2] [0,1,2,3,4]⟩ ?_
  rintro s a w S ⟨q,rfl,hS⟩ hM hf1
  have hM:dm d p q=some S:=hM
  unfold dm at hM
  refine ai hS fun a hS=>?_
  refine aw ?_
  rcases cd hM with ⟨ay,hM⟩ | ⟨ay,hM⟩
  ·refine ai hS fun a hS=>?_
   refine aw ?_
   refine ai hS fun a hS=>?_
   obtain ⟨A,U,hM⟩:=bd hM
   refine wl rfl (dI (R:=ad) hS nI fY rfl rfl 1 rfl 1 rfl U rfl fun bb c1 c2 bl az b0 b1 a hS=>?_)
   obtain rfl:=az
   refine qy hS (cg (k:=0) hS fY 1 rfl b0 b1 rfl id (us:=(aS A)) rfl rfl (fun h=>by cases h)) fun a hS=>?_
   refine ka hS gM fun bi c0 a w hk hS=>?_
   refine go hS fun a w hS=>?_
   have hL:=hS
   replace hL:=hL.freeze (R:=ad) 1 rfl 0 rfl
   obtain ⟨c9,a0,hM⟩:=bd hM
   refine kc hS Ar (lA _ _ hL.dlt d A _ (hL.get 0 rfl) _ a0) fun _ w hR a hk hA=>?_
   obtain rfl:=hR
   have hS:=bM hA
   exact fz
  exact fz
 rintro a w ⟨hS,hM⟩
 unfold dj at hM
 refine aI (J:=fun a w=>∃ (u:Bool),St W0 No T 88 [(4,.bool u)] [] [bu] a w∧eF u=some y) ?_ ?_
 ·skip
  refine ai hS fun a hS=>?_
  obtain ⟨c4,W,hM⟩:=bd hM
  refine kc hS Bl (fX _ _ hS.dlt (ah.mk b.2.1.Revision b.2.1.Inputs b.2.1.Records) b.2.1.Revision _ _ (hS.get 0 rfl) (hS.get 1 rfl) _ W) fun _ w hR a hk hA=>?_
  obtain ⟨co,bq,he,N⟩:=hR
  obtain rfl:=he.symm
  have hS:=pd hA N
  refine ai hS fun a hS=>?_
  rcases cd hM with ⟨D,hM⟩ | ⟨D,hM⟩
  ·obtain ⟨c5,X,hM⟩:=bd hM
   refine wg hS rfl rfl rfl D (a7 hS Em rfl rfl (ft _ _ hS.dlt (hS.get 3 rfl) _ X) fun _ w hR a hk hA=>?_)
   obtain rfl:=hR
   have hS:=bM hA
   exact fz
  exact fz
 rintro a w ⟨u,hS,hM⟩
 unfold eF at hM
 exact fz
end
end
section
open Go.RowKit
theorem mF {σ ρ:Type} {B:σ→Option (Fl σ ρ)} (I:Nat→σ→Prop) (post:ρ→Prop) (N:Nat)
    (hs:∀ k s,k < N→I k s→(∃ s',B s=some (.go s')∧I (k + 1) s')∨∃ r,B s=some (.out r)∧post r) (he:∀ s,I N s→∃ r,B s=some (.out r)∧post r) {s:σ} (h0:I 0 s):∃ r,loop B s=some r∧post r:=by
  have key:∀ (m k:Nat) (s:σ),k + m=N→I k s→∃ r,loop B s=some r∧post r:=by
    intro m
    induction m with
    | zero =>
      intro k s hk hI
      obtain rfl:k=N:=by omega
      obtain ⟨r,h1,h2⟩:=he s hI
      exact ⟨r,nr h1,h2⟩
    | succ m ih =>
      intro k s hk hI
      rcases hs k s (by omega) hI with ⟨s',h1,h2⟩ | ⟨r,h1,h2⟩
      · obtain ⟨r,h3,h4⟩:=ih (k + 1) s' (by omega) h2
        exact ⟨r,(xg h1).trans h3,h4⟩
      · exact ⟨r,nr h1,h2⟩
  exact key N 0 s (by omega) h0
theorem ug {σ ρ:Type} {B:σ→Option (Fl σ ρ)} (I:Nat→σ→Prop) (y:ρ) (N:Nat)
    (hs:∀ k s,k < N→I k s→(∃ s',B s=some (.go s')∧I (k + 1) s')∨B s=some (.out y)) (he:∀ s,I N s→B s=some (.out y)) {s:σ} (h0:I 0 s):loop B s=some y:=by
  obtain ⟨r,h1,rfl⟩:=mF I (fun r=>r=y) N (fun k s hk hI=>(hs k s hk hI).imp id fun h=>⟨y,h,rfl⟩) (fun s hI=>⟨y,he s hI,rfl⟩) h0
  exact h1
theorem nJ {z:Int} (h1 : -9223372036854775808≤z) (h2:z≤9223372036854775807):IntKind.i64.wrap z=z:=by rw [IntKind.wrap_i64]; omega
theorem bv {α:Type} {xs:List α} {k:Nat} (h:k < xs.length):bm xs (k:Int)=some xs[k]:=by
  unfold bm
  simp [h]
theorem z8 {α:Type} {xs:List α} {l h:Nat} (h1:l≤h) (h2:h≤xs.length):ql xs (l:Int) (h:Int)=some ((xs.take h).drop l):=by
  unfold ql
  rw [if_pos ⟨by omega,by omega,by omega⟩]
  simp
theorem eH {n:Nat} (h:n≤4294967296):bG n=true:=Nat.ble_eq_true_of_le h
def Ok {α:Type} (m:Option α) (P:α→Prop):Prop:=∃ y,m=some y∧P y
section
variable {α β:Type} {m:Option α} {P Q:α→Prop} {R:β→Prop} {f:α→Option β} {b:Bool} {x y:Option α}
theorem Ok.ret {v:α} (h:P v):Ok (some v) P:=⟨v,rfl,h⟩
theorem Ok.bind (h:Ok m Q) (k:∀ v,Q v→Ok (f v) R):Ok (m.bind f) R:=by
  obtain ⟨v,rfl,hv⟩:=h
  exact k v hv
theorem Ok.eq {v:α} (h:m=some v) (k:Ok (f v) R):Ok (m.bind f) R:=by rw [h]; exact k
theorem Ok.cond (ht:b=true→Ok x P) (hf:b=false→Ok y P):Ok (cond b x y) P:=by
  cases b
  · exact hf rfl
  · exact ht rfl
theorem Ok.gd (hb:b=true) (h:Ok x P):Ok (gd b x) P:=by subst hb; exact h
theorem Ok.mono (h:Ok m Q) (k:∀ v,Q v→P v):Ok m P:=by obtain ⟨v,e,hv⟩:=h; exact ⟨v,e,k v hv⟩
theorem Ok.get {xs:List α} {i:Int} (h0:0≤i) (h1:i < xs.length) (k:∀ v,xs[i.toNat]? = some v→v ∈ xs→Ok (f v) R):Ok ((bm xs i).bind f) R:=by
  have hk:i.toNat < xs.length:=by omega
  have e:bm xs i=some xs[i.toNat]:=by
    have:=bv hk
    rwa [Int.toNat_of_nonneg h0] at this
  rw [e]
  exact k _ (List.getElem?_eq_getElem hk) (List.getElem_mem hk)
theorem Ok.loop {σ ρ:Type} {B:σ→Option (Fl σ ρ)} {s:σ} {g:ρ→Option β} (I:Nat→σ→Prop) (post:ρ→Prop) (N:Nat) (h0:I 0 s)
    (hs:∀ k s,k≤N→I k s→Ok (B s) fun r=>match r with
      | .go s'=>k < N∧I (k + 1) s'
      | .out r=>post r)
    (k:∀ r,post r→Ok (g r) R):Ok ((Go.Proofs.YthefmilamdchiaaGreatDoor.loop B s).bind g) R:=by
  obtain ⟨r,h1,h2⟩:=mF (B:=B) I post N (fun k s hk hI=>by
      obtain ⟨y,e,hy⟩:=hs k s (by omega) hI
      cases y with
      | go s'=>exact .inl ⟨s',e,hy.2⟩
      | out r=>exact .inr ⟨r,e,hy⟩) (fun s hI=>by
      obtain ⟨y,e,hy⟩:=hs N s (Nat.le_refl _) hI
      cases y with
      | go s'=>exact absurd hy.1 (by omega)
      | out r=>exact ⟨r,e,hy⟩) h0
  rw [h1]
  exact k r h2
end
end
section
open Go.RowKit
open Go.Lib hiding intOf
theorem nn (n:Nat):itoa (n:Int)=decDigits n:=by
  unfold itoa
  first | rw [if_neg (by omega)]; simp | simp
noncomputable def bn (n:Nat):ae:=⟨30,cz n⟩
theorem pr {n:Nat} (h:n < 1000000000):tN n=some (cz n):=by
  unfold tN Fy
  rw [show (decide (-9223372036854775808≤(n:Int)) && decide ((n:Int)≤9223372036854775807))=true by simp; omega]
  rfl
theorem oy {n:Nat} (h:n < 100):cZ n=some (bn n):=by
  unfold cZ
  rw [show decide ((n:Int) < 0)=false by simp,show decide ((99:Int) < (n:Int))=false by simp; omega]
  simp [cond,pr (show n < 1000000000 by omega),bn]
theorem yU {n:Nat} (h:n < 1000):uw (cz n)=some ((n:Int),false):=by
  unfold uw
  have hl:(cz n).toList=decDigits n:=by rw [pK,nn]
  have hs:(cz n).size≤140737488355328:=by
    have h1:(cz n).size=(itoa n).length:=by simp [cz,ByteArray.size]
    have:=ub n 3 (by omega)
    rw [h1,nn]; omega
  rw [show Nat.ble (cz n).size 140737488355328=true from Nat.ble_eq_true_of_le hs,hl,xK (by omega)]
  rfl
theorem BH {n:Nat} (h:n < 100):gj (bn n)=some true:=by
  have h1:mV 30=some true:=by unfold mV; rfl
  have h2:lj (bn n)=some n:=by
    unfold lj bn
    rw [h1]
    simp only [Option.bind_some,yU (show n < 1000 by omega),pr (show n < 1000000000 by omega)]
    rw [show decide ((n:Int) < 0)=false by simp,show decide ((99:Int) < (n:Int))=false by simp; omega]
    simp
  unfold gj
  rw [show (bn n).Kind=30 from rfl,h1,h2]
  simp
theorem BQ (n:Int) {m:Nat} (hm:0 < m) (hm2:m≤1000000000):∃ r:Nat,r < m∧ot n m=some (r:Int):=by
  have h1:=Int.tmod_lt_of_pos n (b:=(m:Int)) (by omega)
  have h2 : -(m:Int) < Int.tmod n m:=by
    rcases (show n < 0∨0≤n by omega) with h | h
    · have:=Int.tmod_lt_of_pos (-n) (b:=(m:Int)) (by omega)
      rw [Int.neg_tmod] at this
      omega
    · have:=Int.tmod_nonneg (m:Int) h
      omega
  refine ⟨(Int.tmod (Int.tmod n m + m) m).toNat,?_,?_⟩
  · have h3:=Int.tmod_lt_of_pos (Int.tmod n m + m) (b:=(m:Int)) (by omega)
    have h4:=Int.tmod_nonneg (a:=Int.tmod n m + m) (m:Int) (by omega)
    omega
  · unfold ot
    have h4:=Int.tmod_nonneg (a:=Int.tmod n m + m) (m:Int) (by omega)
    rw [show decide ((m:Int) < 1)=false by simp; omega,show ((m:Int) != 0)=true by simp; omega,nJ (by omega) (by omega),Int.toNat_of_nonneg h4]
    rfl
theorem Al {n:Nat} (h:n < 1000000000):uw (cz n)=some ((n:Int),false):=by
  unfold uw
  have hl:(cz n).toList=decDigits n:=by rw [pK,nn]
  have hs:(cz n).size≤140737488355328:=by
    have h1:(cz n).size=(itoa n).length:=by simp [cz,ByteArray.size]
    have:=ub n 9 (by omega)
    rw [h1,nn]; omega
  rw [show Nat.ble (cz n).size 140737488355328=true from Nat.ble_eq_true_of_le hs,hl,xK (by omega)]
  rfl
theorem AK {k:Int} {n:Nat} (hk:k=30∨k=31∨k=32) (h:n < 100):lj ⟨k,cz n⟩=some n:=by
  have h1:mV k=some true:=by rcases hk with rfl | rfl | rfl <;> (unfold mV; rfl)
  unfold lj
  rw [h1]
  simp only [Option.bind_some,Al (show n < 1000000000 by omega),pr (show n < 1000000000 by omega)]
  rw [show decide ((n:Int) < 0)=false by simp,show decide ((99:Int) < (n:Int))=false by simp; omega]
  simp
theorem CA {k:Int} {n:Nat} (hk:k=30∨k=31∨k=32) (h:n < 100):gj ⟨k,cz n⟩=some true:=by
  have h1:mV k=some true:=by rcases hk with rfl | rfl | rfl <;> (unfold mV; rfl)
  unfold gj
  rw [h1,AK hk h]
  simp
noncomputable def z7 (r:aL) (n:Nat):ae:=⟨if r.Ring then 32 else 31,cz n⟩
theorem AR {l:List aL} {n:Nat} (h:n < l.length) (h100:n < 100):jo l n=some (z7 l[n] n):=by
  unfold jo
  rw [show decide ((n:Int) < 0)=false by simp,show decide (((l.length:Int):Int)≤(n:Int))=false by simp; omega,show decide ((99:Int) < (n:Int))=false by simp; omega,bv h,pr (by omega)]
  simp only [Option.bind_some,cond_false]
  unfold nu z7
  cases l[n].Ring <;> simp
theorem AY (s:ByteArray):s.toList.length=s.size:=by rw [ByteArray.toList_eq]; rfl
theorem Az (c:UInt8) (r:List UInt8) (n:Nat):dH (c :: r) n=if (decide (48≤c.toNat) && decide (c.toNat≤57))=true then dH r (10 * n + (c.toNat - 48)) else -1:=rfl
theorem BS:(ByteArray.mk #[]).toList=[]:=by rw [ByteArray.toList_eq]
theorem Br (s:ByteArray):iX s=some (sh s.toList):=by
  have hsz:=AY s
  have j3t:cG s true=some (-1):=by unfold cG; rfl
  have j3f:s.size≤9→cG s false=some (dH s.toList 0):=fun h9=>by
    unfold cG
    simp only [cond_false]
    have key:∃ r,loop (fun s_1:Int×Int=>fB s s_1.1 s_1.2) (0,0)=some r∧Fl.el r (fun s=>fA s) (fun y=>some y)=some (dH s.toList 0):=?_
    · obtain ⟨r,h1,h2⟩:=key
      rw [h1]; exact h2
    refine mF (fun k st=>∃ m:Nat,st=((m:Int),(k:Int))∧dH (s.toList.drop k) m=dH s.toList 0∧m < 10 ^ k)
      (fun r=>Fl.el r (fun s=>fA s) (fun y=>some y)=some (dH s.toList 0)) s.size (fun k st hk hI=>?_) (fun st hI=>?_) ⟨0,rfl,rfl,by simp⟩
    · obtain ⟨m,rfl,e,hm⟩:=hI
      have hk':k < s.toList.length:=by omega
      rw [List.drop_eq_getElem_cons hk'] at e
      unfold fB
      rw [show decide ((k:Int) < (s.size:Int))=true by simpa using hk,bv hk']
      simp only [cond_true,Option.bind_some]
      have hp:(10:Nat) ^ k≤10 ^ 8:=Nat.pow_le_pow_right (by omega) (by omega)
      have hq:(10:Nat) ^ 8=100000000:=rfl
      have hu:=(s.toList[k]).toNat_lt
      rw [Az] at e
      by_cases h48:((s.toList[k]).toNat:Int) < 48
      · rw [show decide (((s.toList[k]).toNat:Int) < 48)=true by simpa using h48]
        rw [if_neg (by simp; omega)] at e
        exact .inr ⟨_,rfl,by rw [← e]; rfl⟩
      · rw [show decide (((s.toList[k]).toNat:Int) < 48)=false by simpa using h48]
        by_cases h57:(57:Int) < ((s.toList[k]).toNat:Int)
        · rw [show decide ((57:Int) < ((s.toList[k]).toNat:Int))=true by simpa using h57]
          rw [if_neg (by simp; omega)] at e
          exact .inr ⟨_,rfl,by rw [← e]; rfl⟩
        · rw [show decide ((57:Int) < ((s.toList[k]).toNat:Int))=false by simpa using h57]
          rw [if_pos (by simp; omega)] at e
          simp only [cond_false]
          have hw:IntKind.u8.wrap (((s.toList[k]).toNat:Int) - 48)=(((s.toList[k]).toNat - 48:Nat):Int):=by rw [IntKind.wrap_u8]; omega
          rw [hw,show IntKind.i64.wrap (10 * (m:Int))=((10 * m:Nat):Int) from (nJ (by omega) (by omega)).trans (by omega),show IntKind.i64.wrap (((s.toList[k]).toNat - 48:Nat):Int)=(((s.toList[k]).toNat - 48:Nat):Int) from nJ (by omega) (by omega),
            nJ (by omega) (by omega),nJ (by omega) (by omega)]
          exact .inl ⟨_,rfl,10 * m + ((s.toList[k]).toNat - 48),by simp,e,by rw [Nat.pow_succ]; omega⟩
    · obtain ⟨m,rfl,e,hm⟩:=hI
      rw [← hsz,List.drop_length] at e
      unfold fB
      rw [show decide ((s.size:Int) < (s.size:Int))=false by simp]
      exact ⟨_,rfl,by simp only [Fl.el,fA]; rw [← e]; rfl⟩
  unfold iX sh
  have hz:(s.toList == (ByteArray.mk #[]).toList)=decide (s.toList=[]):=by rw [BS]; cases s.toList <;> rfl
  rw [hz]
  by_cases h0:s.toList=[]
  · rw [if_pos (.inl h0),decide_eq_true h0]; exact j3t
  · rw [decide_eq_false h0]
    simp only [cond_false]
    by_cases h9:9 < s.toList.length
    · rw [if_pos (.inr (.inl h9)),show decide ((9:Int) < (s.size:Int))=true by simp; omega]; exact j3t
    · rw [show decide ((9:Int) < (s.size:Int))=false by simp; omega]
      have hl:0 < s.toList.length:=List.length_pos_iff.2 h0
      have h1:bm s.toList (0:Int)=some (s.toList.getD 0 0):=by
        have:=bv hl
        simp only [Int.natCast_zero] at this
        rw [this,List.getD_eq_getElem?_getD,List.getElem?_eq_getElem hl]; rfl
      rw [h1]
      simp only [cond_false,Option.bind_some]
      by_cases h48:s.toList.getD 0 0=48
      · rw [h48,show (((48:UInt8).toNat:Int) == 48)=true from rfl]
        simp only [cond_true,true_and]
        have hq:(!(s.toList == (ByteArray.mk #[48]).toList))=decide (s.toList ≠ [48]):=by rw [show (ByteArray.mk #[48]).toList=[48] from by rw [ByteArray.toList_eq]]; by_cases h:s.toList=[48] <;> simp [h]
        rw [hq]
        by_cases h:s.toList=[48]
        · rw [decide_eq_false (fun h2=>h2 h),j3f (by omega),if_neg (by rintro (h2 | h2 | h2); exact h0 h2; exact h9 h2; exact h2 h)]
        · rw [decide_eq_true h,if_pos (.inr (.inr h))]; exact j3t
      · have h48':((s.toList.getD 0 0).toNat:Int) ≠ 48:=fun h=>h48 (UInt8.toNat_inj.1 (by have:(48:UInt8).toNat=48:=rfl; omega))
        rw [show (((s.toList.getD 0 0).toNat:Int) == 48)=false by simpa using h48']
        simp only [cond_false]
        rw [j3f (by omega),if_neg (by rintro (h2 | h2 | h2); exact h0 h2; exact h9 h2; exact h48 h2.1)]
def za (k:ae):Int:=if 30≤k.Kind∧k.Kind≤32 then DA 99 k.Text.toList else -1
theorem oH (k:ae):gv k=some (za k):=by
  unfold gv za DA
  rw [Br]
  simp only [Option.bind_some]
  unfold gk
  have:=C2 k.Text.toList
  by_cases h1:30≤k.Kind <;> by_cases h2:k.Kind≤32 <;> by_cases h3:sh k.Text.toList≤99 <;> simp [h1,h2,h3]
end
section
open Go.RowKit
open Go.Lib hiding intOf
section
variable {σ ρ α:Type} {B:σ→Option (Fl σ ρ)}
theorem qW (st:Nat→σ) (m:Nat) {s0:σ} (h0:s0=st 0) {r:ρ} (hgo:∀ k,k < m→B (st k)=some (.go (st (k + 1)))) (hout:B (st m)=some (.out r)):loop B s0=some r:=by
  subst h0
  exact ug (fun k s=>s=st k) r m (fun k s hk hs=>.inl ⟨st (k + 1),by rw [hs]; exact hgo k hk,rfl⟩) (fun s hs=>by rw [hs]; exact hout) rfl
theorem pP {xs:List α} (p:α→Bool) (st:Nat→σ) {s0:σ} (h0:s0=st 0) {y:Nat→α→ρ} {n:ρ} (hgo:∀ k x,xs[k]? = some x→p x=false→B (st k)=some (.go (st (k + 1))))
    (hy:∀ k x,xs[k]? = some x→p x=true→B (st k)=some (.out (y k x))) (hn:B (st xs.length)=some (.out n)) :
    (∃ k x,xs[k]? = some x∧p x=true∧(∀ j z,j < k→xs[j]? = some z→p z=false)∧loop B s0=some (y k x))∨(∀ z ∈ xs,p z=false)∧loop B s0=some n:=by
  by_cases h:xs.findIdx p < xs.length
  · have e:=List.getElem?_eq_getElem h
    have hp:=List.findIdx_getElem (w:=h)
    have hb:∀ j z,j < xs.findIdx p→xs[j]? = some z→p z=false:=fun j z hj hz=>by
      have:=List.not_of_lt_findIdx hj
      obtain ⟨h1,h2⟩:=List.getElem?_eq_some_iff.1 hz
      rw [h2] at this; simpa using this
    refine .inl ⟨_,_,e,hp,hb,qW st _ h0 (fun k hk=>?_) (hy _ _ e hp)⟩
    have hk2:k < xs.length:=by omega
    exact hgo k _ (List.getElem?_eq_getElem hk2) (hb k _ hk (List.getElem?_eq_getElem hk2))
  · have hb:∀ j z,xs[j]? = some z→p z=false:=fun j z hz=>by
      obtain ⟨h1,h2⟩:=List.getElem?_eq_some_iff.1 hz
      have:=List.not_of_lt_findIdx (p:=p) (xs:=xs) (i:=j) (by omega)
      rw [h2] at this; simpa using this
    refine .inr ⟨fun z hz=>?_,qW st xs.length h0 (fun k hk=>hgo k _ (List.getElem?_eq_getElem hk) (hb k _ (List.getElem?_eq_getElem hk))) hn⟩
    obtain ⟨i,hi⟩:=List.mem_iff_getElem?.1 hz
    exact hb i z hi
theorem ye {xs:List α} (p:α→Bool) (st:Nat→σ) {s0:σ} (h0:s0=st 0) {y n:ρ} (hgo:∀ k x,xs[k]? = some x→p x=false→B (st k)=some (.go (st (k + 1))))
    (hy:∀ k x,xs[k]? = some x→p x=true→B (st k)=some (.out y)) (hn:B (st xs.length)=some (.out n)):loop B s0=some (if xs.any p then y else n):=by
  rcases pP p st h0 (y:=fun _ _=>y) hgo hy hn with ⟨k,x,h1,h2,_,h3⟩ | ⟨h1,h2⟩
  · rw [if_pos (List.any_eq_true.2 ⟨x,List.mem_of_getElem? h1,h2⟩)]; exact h3
  · rw [if_neg (fun h=>by obtain ⟨x,hx,e⟩:=List.any_eq_true.1 h; rw [h1 x hx] at e; cases e)]; exact h2
theorem dZ {xs:List α} (st:Nat→σ) {s0:σ} (h0:s0=st 0) {r:ρ} (hgo:∀ k x,xs[k]? = some x→B (st k)=some (.go (st (k + 1)))) (hout:B (st xs.length)=some (.out r)):loop B s0=some r :=
  qW st xs.length h0 (fun k hk=>hgo k _ (List.getElem?_eq_getElem hk)) hout
theorem ee {β γ:Type} {m:Option β} {v:β} {f:β→Option γ} {y:Option γ} (h:m=some v) (k:f v=y):m.bind f=y:=by subst h; exact k
end
theorem bk {α:Type} (xs:List α) (k:Nat):bm xs (k:Int)=xs[k]?:=by simp [bm]
theorem dlt {k n:Nat} (h:k < n):decide ((k:Int) < (n:Int))=true:=decide_eq_true (by omega)
theorem Ax {k n:Nat} (h:¬ k < n):decide ((k:Int) < (n:Int))=false:=decide_eq_false (by omega)
theorem lg {α:Type} {xs:List α} {k:Nat} {x:α} (h:xs[k]? = some x):decide ((k:Int) < (xs.length:Int))=true:=dlt (List.getElem?_eq_some_iff.1 h).1
theorem bQ (n:Nat):decide ((n:Int) < (n:Int))=false:=Ax (Nat.lt_irrefl _)
theorem cT {k:Nat} (h:k≤9223372036854775806):IntKind.i64.wrap ((k:Int) + 1)=((k + 1:Nat):Int):=by rw [nJ (by omega) (by omega)]; omega
theorem bh {α:Type} {xs:List α} {k:Nat} {x:α} (h:xs[k]? = some x):k < xs.length:=(List.getElem?_eq_some_iff.1 h).1
theorem cw {α:Type} {xs:List α} {k:Nat} {x:α} (h:xs[k]? = some x):xs.take (k + 1)=xs.take k ++ [x]:=by
  rw [List.take_add_one,h]; rfl
theorem nL {α:Type} (p:α→Bool) (xs:List α) (k:Nat):((xs.take k).filter p).length≤xs.length :=
  Nat.le_trans (List.length_filter_le _ _) (by rw [List.length_take]; omega)
theorem Co {α:Type} {xs:List α} {k:Nat} {x:α} (h:xs[k]? = some x):xs.set k x=xs:=by
  obtain ⟨h1,h2⟩:=List.getElem?_eq_some_iff.1 h
  rw [← h2]; exact List.set_getElem_self h1
def Rm (n:Nat):Prop:=n≤1000000000
theorem uj {α:Type} {xs:List α} {a:Nat} (h:a≤xs.length):ql xs (a:Int) (xs.length:Int)=some (xs.drop a):=by
  rw [z8 h (Nat.le_refl _),List.take_length]
theorem rc {α:Type} {xs:List α} {a:Nat} (h:a≤xs.length):ql xs 0 (a:Int)=some (xs.take a):=by
  have:=z8 (xs:=xs) (Nat.zero_le a) h
  rwa [List.drop_zero] at this
end
section
open Go.RowKit
open Go.Lib hiding intOf
structure bN (l:List Int) (at_:Int):Prop where
  low:0≤at_
  high:at_≤l.length
  len:l.length≤400
theorem c7 {l:List Int} {i:Int} (h:bN l i) {n:Int} (h1:1≤n) (h2:n≤1000000000):Ok (bI ⟨l,i⟩ n) fun r=>0≤r.1∧r.1 < n∧bN r.2.L r.2.At:=by
  unfold bI
  refine Ok.cond (fun h3=>Ok.ret ⟨by omega,by omega,h⟩) (fun h3=>?_)
  have h3:i < l.length:=by simpa using h3
  have:=h.low; have:=h.high; have:=h.len
  dsimp only
  rw [show IntKind.i64.wrap (i + 1)=i + 1 from nJ (by omega) (by omega),nJ (by omega) (by omega)]
  refine Ok.get (by simpa using h.low) (by simpa using h3) fun v _ _=>?_
  obtain ⟨m,rfl⟩:∃ m:Nat,n=m:=⟨n.toNat,by omega⟩
  obtain ⟨r,hr,e⟩:=BQ v (m:=m) (by omega) (by omega)
  exact Ok.eq e (Ok.ret ⟨by simp,by simp; omega,⟨by simp; omega,by simp; omega,h.len⟩⟩)
theorem DQ {l:List Int} {i:Int} (h:bN l i) {ws:List ByteArray} (h1:1≤ws.length) (h2:ws.length≤1000):Ok (po ⟨l,i⟩ ws) fun r=>r.1 ∈ ws∧bN r.2.L r.2.At:=by
  unfold po
  refine Ok.bind (c7 h (by omega) (by omega)) fun r hr=>Ok.get hr.1 hr.2.1 fun v _ hv=>Ok.ret ⟨hv,hr.2.2⟩
end
section
open Go.RowKit
open Go.Lib hiding intOf
def ZZ (rs:List Bool):Nat→Nat
  | 0=>0
  | a + 1=>if rs[a]? = some true then ZZ rs a else a + 1
def AD (rs:List Bool):Nat→Nat→Nat
  | 0,b=>b
  | f + 1,b=>if rs[b]? = some true then AD rs f (b + 1) else b
theorem xf (rs:List Bool) (a:Nat):ZZ rs (a + 1)=if rs[a]? = some true then ZZ rs a else a + 1:=rfl
theorem x4 (rs:List Bool) (f b:Nat):AD rs (f + 1) b=if rs[b]? = some true then AD rs f (b + 1) else b:=rfl
theorem wu (rs:List Bool):∀ a,ZZ rs a≤a
  | 0=>Nat.le_refl _
  | a + 1=>by
    have:=wu rs a
    unfold ZZ
    split <;> omega
theorem BB (rs:List Bool):∀ f b,b≤AD rs f b∧AD rs f b≤b + f
  | 0,b=>⟨Nat.le_refl _,Nat.le_refl _⟩
  | f + 1,b=>by
    have:=BB rs f (b + 1)
    unfold AD
    split <;> omega
def blk (rs:List Bool) (n:Nat):Nat×Nat:=if rs[n]? = some true then (ZZ rs n,AD rs (rs.length - (n + 1)) (n + 1)) else (n,n + 1)
theorem Bb {rs:List Bool} {n:Nat} (h:n < rs.length):(blk rs n).1≤n∧n < (blk rs n).2∧(blk rs n).2≤rs.length:=by
  have h1:=wu rs n
  have h2:=BB rs (rs.length - (n + 1)) (n + 1)
  unfold blk
  split <;> simp only [] <;> omega
theorem s6 {rs:List Bool} {n:Nat} (h:rs[n]? = some false):blk rs n=(n,n + 1):=by simp [blk,h]
def be (l:List aL):List Bool:=l.map (·.Ring)
theorem nF {l:List aL} {n:Nat} (h:n < l.length):(be l)[n]? = some l[n].Ring:=by simp [be,h]
theorem wB {l:List aL} {n:Nat} (h:n < l.length) (hl:l.length≤1000000):lB l n=some (((blk (be l) n).1:Int),((blk (be l) n).2:Int)):=by
  unfold lB
  rw [show decide ((n:Int) < 0)=false by simp,show decide (((l.length:Int):Int)≤(n:Int))=false by simp; omega]
  simp only [cond_false,Option.bind_some]
  have hr:=nF h
  cases hb:l[n].Ring with
  | false =>
    rw [hb] at hr
    have h1:loop (fun s:Int=>eL l n s) (n:Int)=some (n:Int):=nr (by
      unfold eL; rw [bv h]; simp only [Option.bind_some,hb,cond_false])
    have h2:loop (fun s:Int=>eK l n s) ((n:Int) + 1)=some ((n:Int) + 1):=nr (by
      unfold eK; rw [bv h]; simp only [Option.bind_some,hb,cond_false])
    rw [h1]
    unfold jt jr
    rw [Option.bind_some,nJ (by omega) (by omega),h2,s6 hr]
    rfl
  | true =>
    rw [hb] at hr
    have h1:loop (fun s:Int=>eL l n s) (n:Int)=some ((ZZ (be l) n:Nat):Int):=by
      refine ug (I:=fun k s=>∃ a:Nat,a + k=n∧s=(a:Int)∧ZZ (be l) a=ZZ (be l) n) _ n ?_ ?_ ⟨n,rfl,rfl,rfl⟩
      · rintro k _ hk ⟨a,ha,rfl,e⟩
        unfold eL
        obtain ⟨c,rfl⟩:∃ c,a=c + 1:=⟨a - 1,by omega⟩
        have hc:c < l.length:=by omega
        rw [bv h,show decide ((0:Int) < ((c + 1:Nat):Int))=true by simp <;> omega,nJ (by omega) (by omega),show (((c + 1:Nat):Int) - 1)=(c:Int) by omega,bv hc]
        simp only [cond_true,Option.bind_some,hb]
        have hr2:=nF hc
        rw [xf,hr2] at e
        cases hb2:l[c].Ring with
        | true=>rw [hb2,if_pos rfl] at e; exact .inl ⟨_,rfl,c,by omega,rfl,e⟩
        | false=>rw [hb2,if_neg (by simp)] at e; right; rw [← e]; rfl
      · rintro _ ⟨a,ha,rfl,e⟩
        obtain rfl:a=0:=by omega
        unfold eL
        rw [bv h,← e]
        simp only [Option.bind_some,hb,cond_true]
        rfl
    have h2:loop (fun s:Int=>eK l n s) ((n + 1:Nat):Int)=some ((AD (be l) ((be l).length - (n + 1)) (n + 1):Nat):Int):=by
      have hlen:(be l).length=l.length:=by simp [be]
      rw [hlen]
      refine ug (I:=fun k s=>∃ a:Nat,a=n + 1 + k∧a≤l.length∧s=(a:Int)∧AD (be l) (l.length - a) a=AD (be l) (l.length - (n + 1)) (n + 1)) _ (l.length - (n + 1)) ?_ ?_ ⟨n + 1,rfl,h,rfl,rfl⟩
      · rintro k _ hk ⟨a,ha,hal,rfl,e⟩
        unfold eK
        have hc:a < l.length:=by omega
        rw [bv h,show decide ((a:Int) < (l.length:Int))=true by simp; omega,bv hc,nJ (by omega) (by omega)]
        simp only [cond_true,Option.bind_some,hb]
        have hr2:=nF hc
        rw [show l.length - a=(l.length - (a + 1)) + 1 by omega] at e
        rw [x4,hr2] at e
        cases hb2:l[a].Ring with
        | true=>rw [hb2,if_pos rfl] at e; exact .inl ⟨_,rfl,a + 1,by omega,by omega,by simp,e⟩
        | false=>rw [hb2,if_neg (by simp)] at e; right; rw [← e]; rfl
      · rintro _ ⟨a,ha,hal,rfl,e⟩
        obtain rfl:a=l.length:=by omega
        unfold eK
        rw [Nat.sub_self] at e
        rw [bv h,← e]
        simp [AD,hb]
    rw [h1]
    simp only [Option.bind_some]
    unfold jt jr
    rw [nJ (by omega) (by omega),show ((n:Int) + 1)=((n + 1:Nat):Int) by omega,h2]
    simp [blk,hr]
structure xH (ring:Bool) (k:Nat) (b:Int) (a:cI):Prop where
  low:0≤a.N
  cell:a.Cell=true→a.N < 4
  rule:a.Cell=false→a.N < b
  pick:a.Pick=true→ring=false∧0 < k
  low2:0≤a.Else
  cell2:a.Cell=true→a.Else < 4
  rule2:a.Cell=false→a.Else < b
  none:a.Pick=false→a.Else=0
structure yQ (b:Int) (r:aL):Prop where
  asks:r.Asks.length≤3
  each:∀ k a,r.Asks[k]? = some a→xH r.Ring k b a
  ring:r.Ring=true→r.Final=5∧0≤r.C∧r.C≤16
  plain:r.Ring=false→1≤r.Final∧r.Final≤4∧0≤r.C∧r.C≤5
def xF (rs:List Bool) (i:Nat):Nat:=if rs[i]? = some true then (blk rs i).2 else i
structure bx (l:List aL):Prop where
  low:2≤l.length
  high:l.length≤8
  each:∀ i r,l[i]? = some r→yQ (xF (be l) i) r
def yN (ring:Bool) (b k:Int) (ks:List cI):Fl (Int×List Int×Int×List cI) (List Int×Int×List cI)→Prop
  | .go s=>s.1=k - 1∧bN s.2.1 s.2.2.1∧∃ a,xH ring ks.length b a∧s.2.2.2=ks ++ [a]
  | .out _=>False
section
variable {ring:Bool} {b k:Int} {ks:List cI} {cell:Bool} {most n:Int} {l:List Int} {i:Int}
theorem Hs {pick:Bool} {e:Int} (ha:xH ring ks.length b ⟨cell,pick,n,e⟩) (hd:bN l i) (hk:1≤k∧k≤3) (hl:ks.length≤3):Ok (iS k ks cell n l i pick e) (yN ring b k ks):=by
  unfold iS m5
  exact Ok.gd (eH (by simp; omega)) (Ok.ret ⟨nJ (by omega) (by omega),hd,_,ha,rfl⟩)
theorem Ht {g:Bool} (hg:g=true→ring=false∧0 < ks.length) (hn:0≤n∧n < most) (hc:cell=true→most=4) (hr:cell=false→most=b) (hm:1≤most∧most≤8) (hd:bN l i) (hk:1≤k∧k≤3) (hl:ks.length≤3) :
    Ok (gH k ks cell most n g l i) (yN ring b k ks):=by
  unfold gH
  refine Ok.cond (fun e=>Ok.bind (c7 hd (by omega) (by omega)) fun r hr2=>Hs ⟨hn.1,fun h=>?_,fun h=>?_,fun _=>hg e,hr2.1,fun h=>?_,fun h=>?_,fun h=>by cases h⟩ hr2.2.2 hk hl)
    (fun e=>Hs ⟨hn.1,fun h=>?_,fun h=>?_,fun h=>(by cases h),by simp,fun h=>(by simp),fun h=>?_,fun h=>rfl⟩ hd hk hl)
  all_goals first
    | (have:=hc h; simp only []; omega)
    | (have:=hr h; simp only []; omega)
theorem Hu (hn:0≤n∧n < most) (hc:cell=true→most=4) (hr:cell=false→most=b) (hm:1≤most∧most≤8) (hd:bN l i) (hk:1≤k∧k≤3) (hl:ks.length≤3) :
    Ok (iT ring k ks cell most l i n) (yN ring b k ks):=by
  unfold iT
  refine Ok.cond (fun e=>Ok.cond (fun e2=>Ok.bind (c7 hd (by omega) (by omega)) fun r hr2=>Ht (fun _=>⟨by simpa using e,by simpa using e2⟩) hn hc hr hm hr2.2.2 hk hl) (fun e2=>?_)) (fun e=>?_)
  all_goals exact Ht (fun h=>by cases h) hn hc hr hm hd hk hl
theorem Hw (hc:cell=true→most=4) (hr:cell=false→most=b) (hm:1≤most∧most≤8) (hd:bN l i) (hk:1≤k∧k≤3) (hl:ks.length≤3) :
    Ok (iV ring k ks l i cell most) (yN ring b k ks):=by
  unfold iV
  refine Ok.bind (c7 hd (by omega) (by omega)) fun r h1=>?_
  have h8:∀ {g:Bool} {l2:List Int} {i2:Int},bN l2 i2→Ok (iU ring k ks cell most r g l2 i2) (yN ring b k ks):=fun {g l2 i2} h2=>by
    unfold iU
    refine Ok.cond (fun _=>Ok.bind (c7 h2 (by omega) (by omega)) fun q h3=>?_) (fun _=>Hu ⟨h1.1,h1.2.1⟩ hc hr hm h2 hk hl)
    have:=h3.1; have:=h3.2.1
    rw [show IntKind.i64.wrap (most - 1)=most - 1 from nJ (by omega) (by omega),nJ (by omega) (by omega)]
    exact Hu ⟨by omega,by omega⟩ hc hr hm h3.2.2 hk hl
  refine Ok.cond (fun _=>Ok.bind (c7 h1.2.2 (by omega) (by omega)) fun q h3=>h8 h3.2.2) (fun _=>h8 h1.2.2)
theorem Hx (hb:0≤b∧b≤8) (hd:bN l i) (hk:1≤k∧k≤3) (hl:ks.length≤3):Ok (gY b ring k l i ks) (yN ring b k ks):=by
  unfold gY
  refine Ok.cond (fun _=>Ok.bind (c7 hd (by omega) (by omega)) fun r h1=>?_) (fun e=>by simp at e; omega)
  have h10:∀ {c:Bool},(c=false→1≤b)→Ok (gV b ring k ks r.2.L r.2.At c) (yN ring b k ks):=fun {c} h=>by
    unfold gV
    exact Ok.cond (fun e=>by subst e; exact Hw (fun _=>rfl) (fun h=>by cases h) ⟨by omega,by omega⟩ h1.2.2 hk hl) (fun e=>by subst e; exact Hw (fun h=>by cases h) (fun _=>rfl) ⟨h rfl,hb.2⟩ h1.2.2 hk hl)
  exact Ok.cond (fun _=>h10 fun h=>by cases h) (fun _=>h10 fun h=>by simp at h; omega)
end
def EF (l:List aL) (n:Nat) (ring:Bool) (b:Int):Fl (List aL×Int×List Int×Int) (List aL×List Int×Int)→Prop
  | .go s=>(∃ r,yQ b r∧r.Ring=ring∧s.1=l.set n r)∧s.2.1=n + 1∧bN s.2.2.1 s.2.2.2
  | .out _=>False
theorem Ev {l:List aL} {n:Nat} (h:n < l.length) (hl:l.length≤8) {b:Int} (hb:0≤b∧b≤8) {ring:Bool} {d:List Int} {i:Int} (hd:bN d i) {f c:Int}
    (h5:ring=true→f=5∧0≤c∧c≤16) (h6:ring=false→1≤f∧f≤4∧0≤c∧c≤5):Ok (gW l n b ring d i f c) (EF l n ring b):=by
  unfold gW
  refine Ok.bind (c7 hd (by omega) (by omega)) fun r h1=>?_
  refine Ok.loop (fun k s=>s.1=r.1 - k∧s.2.2.2.length=k∧bN s.2.1 s.2.2.1∧∀ j a,s.2.2.2[j]? = some a→xH ring j b a) (fun q=>q.2.2.length≤3∧bN q.1 q.2.1∧∀ j a,q.2.2[j]? = some a→xH ring j b a) r.1.toNat
    ⟨by simp,rfl,h1.2.2,fun j a e=>by simp at e⟩ (fun k s hk hI=>?_) (fun q hq=>?_)
  · obtain ⟨e1,e2,e3,e4⟩:=hI
    have:=h1.1; have:=h1.2.1
    by_cases hz:(0:Int) < s.1
    · refine (Hx hb e3 ⟨by omega,by omega⟩ (by omega)).mono fun y hy=>?_
      cases y with
      | out q=>exact hy.elim
      | go s2 =>
        obtain ⟨g1,g2,a,g3,g4⟩:=hy
        refine ⟨by omega,by omega,by rw [g4]; simp; omega,g2,fun j x hx=>?_⟩
        rw [g4] at hx
        by_cases hj:j < s.2.2.2.length
        · rw [List.getElem?_append_left hj] at hx; exact e4 j x hx
        · rw [List.getElem?_append_right (by omega)] at hx
          obtain rfl:j=s.2.2.2.length:=by
            rcases Nat.lt_or_ge s.2.2.2.length j with h | h
            · rw [List.getElem?_eq_none (by simp; omega)] at hx; cases hx
            · omega
          simp at hx; subst hx; exact g3
    · unfold gY
      rw [show decide ((0:Int) < s.1)=false by simpa using hz]
      exact Ok.ret ⟨by simp only []; omega,e3,e4⟩
  · unfold kC m4
    refine Ok.get (by omega) (by omega) fun v _ _=>Ok.ret ⟨⟨⟨ring,q.2.2,f,c⟩,⟨hq.1,hq.2.2,h5,h6⟩,rfl,by simp⟩,nJ (by omega) (by omega),hq.2.1⟩
theorem Hy {l:List aL} {n:Nat} (h:n < l.length) (hl:l.length≤8) {d:List Int} {i:Int} (hd:bN d i) (l0:List aL) (h0:l0.length=l.length):Ok (gZ l0 l n d i) (EF l n l[n].Ring (xF (be l) n)):=by
  unfold gZ
  rw [show decide ((n:Int) < (l0.length:Int))=true by simp; omega,wB h (by omega)]
  simp only [cond_true,Option.bind_some]
  rw [bv h]
  simp only [Option.bind_some]
  have hb:=Bb (rs:=be l) (n:=n) (by simpa [be] using h)
  have hlen:(be l).length=l.length:=by simp [be]
  have h14:∀ {b:Int},0≤b∧b≤8→Ok (gX l n d i b) (EF l n l[n].Ring b):=fun {b} hb=>by
    unfold gX
    rw [bv h,Option.bind_some]
    refine Ok.bind (c7 hd (by omega) (by omega)) fun r h1=>Ok.bind (c7 h1.2.2 (by omega) (by omega)) fun q h2=>?_
    have:=h1.1; have:=h1.2.1; have:=h2.1; have:=h2.2.1
    rw [nJ (by omega) (by omega)]
    unfold lY
    refine Ok.cond (fun e=>Ok.bind (c7 h2.2.2 (by omega) (by omega)) fun p h3=>Ok.get h3.1 (by simpa using h3.2.1) fun v _ hv=>?_) (fun e=>?_)
    · refine Ev h hl hb h3.2.2 (fun _=>⟨rfl,?_⟩) (fun e2=>by rw [e] at e2; cases e2)
      simp only [List.mem_cons,List.not_mem_nil,or_false] at hv
      omega
    · exact Ev h hl hb h2.2.2 (fun e2=>by rw [e] at e2; cases e2) (fun _=>⟨by omega,by omega,by omega,by omega⟩)
  have hr:=nF h
  unfold xF
  rw [hr]
  cases e:l[n].Ring with
  | true=>rw [e] at h14; simp only [Bool.not_true,cond_false,if_true]; exact h14 ⟨by omega,by omega⟩
  | false=>rw [e] at h14 hr; rw [s6 hr]; simp only [Bool.not_false,cond_true]; exact h14 ⟨by omega,by omega⟩
theorem AV {l:List aL} {n:Nat} {r:aL} (h:n < l.length) (e:r.Ring=l[n].Ring):be (l.set n r)=be l:=by
  unfold be
  rw [List.map_set,e]
  apply List.ext_getElem (by simp)
  intro j h1 h2
  by_cases hj:n=j
  · subst hj; simp
  · simp [hj]
theorem Ch {d:List Int} {i:Int} (hd:bN d i):Ok (ou ⟨d,i⟩) fun y=>bx y.1∧bN y.2.L y.2.At:=by
  unfold ou
  refine Ok.bind (c7 hd (by omega) (by omega)) fun r h1=>?_
  have:=h1.1; have:=h1.2.1
  rw [nJ (by omega) (by omega)]
  refine Ok.loop (fun k s=>s.1.length=k∧s.2.1=2 + r.1 - k∧bN s.2.2.1 s.2.2.2) (fun q=>2≤q.1.length∧q.1.length≤8∧bN q.2.1 q.2.2) (2 + r.1).toNat ⟨rfl,by simp,h1.2.2⟩ (fun k s hk hI=>?_) (fun q hq=>?_)
  · obtain ⟨e1,e2,e3⟩:=hI
    unfold lZ
    refine Ok.cond (fun e=>Ok.bind (c7 e3 (by omega) (by omega)) fun q h2=>Ok.gd (eH (by simp; omega)) (Ok.ret ?_)) (fun e=>Ok.ret ?_)
    · have e:(0:Int) < s.2.1:=by simpa using e
      exact ⟨by omega,by simp [e1],by dsimp only; rw [nJ (by omega) (by omega)]; omega,h2.2.2⟩
    · have e:¬ (0:Int) < s.2.1:=by simpa using e
      exact ⟨by dsimp only; omega,by dsimp only; omega,e3⟩
  · obtain ⟨q1,q2,q3⟩:=hq
    unfold jl
    refine Ok.loop (fun k s=>s.1.length=q.1.length∧s.2.1=k∧bN s.2.2.1 s.2.2.2∧be s.1=be q.1∧∀ j r,j < k→s.1[j]? = some r→yQ (xF (be q.1) j) r) (fun p=>bx p.1∧bN p.2.1 p.2.2) q.1.length ⟨rfl,rfl,q3,rfl,fun j r h=>by omega⟩ (fun k s hk hI=>?_) (fun p hp=>?_)
    · obtain ⟨e1,e2,e3,e4,e5⟩:=hI
      by_cases hz:k < q.1.length
      · have hz1:k < s.1.length:=by omega
        rw [e2]
        refine (Hy hz1 (by omega) e3 q.1 e1.symm).mono fun y hy=>?_
        cases y with
        | out q=>exact hy.elim
        | go s2 =>
          obtain ⟨⟨x,g1,g2,g3⟩,g4,g5⟩:=hy
          refine ⟨hz,by rw [g3]; simpa using e1,by rw [g4]; simp,g5,by rw [g3,AV hz1 g2]; exact e4,fun j r hj hr=>?_⟩
          rw [g3] at hr
          by_cases hjk:k=j
          · subst hjk
            rw [List.getElem?_set_self hz1] at hr
            injection hr with hr; subst hr
            rw [e4] at g1; exact g1
          · rw [List.getElem?_set_ne hjk] at hr
            exact e5 j r (by omega) hr
      · unfold gZ
        rw [show decide ((s.2.1:Int) < (q.1.length:Int))=false by simp; omega]
        refine Ok.ret ⟨⟨by simp only []; omega,by simp only []; omega,fun j r hr=>?_⟩,e3⟩
        rw [e4]
        exact e5 j r (by have:=(List.getElem?_eq_some_iff.1 hr).1; dsimp only at this; omega) hr
    · unfold kB
      exact Ok.ret hp
def y8 (rs:List Bool) (i:Nat) (cell:Bool) (n:Int):Bool:=decide (0≤n) && cond cell (decide (n≤15)) (decide (n < (xF rs i:Int)))
theorem vf {l:List aL} {i:Nat} (h:i < l.length) (hl:l.length≤1000000) (x:cI) (n:Int):n6 l (i:Int) x n=some (y8 (be l) i x.Cell n):=by
  unfold n6 y8
  cases x.Cell with
  | true =>
    rw [cond_true,cond_true]
    cases decide (0≤n) <;> rfl
  | false =>
    rw [cond_false,cond_false,wB h hl,Option.bind_some]
    dsimp only
    have hr:=nF h
    rw [bv h,Option.bind_some]
    unfold xF
    rw [hr]
    cases hg:l[i].Ring with
    | true =>
      rw [if_pos rfl]
      unfold jY jX
      cases decide (0≤n) <;> rfl
    | false =>
      rw [hg] at hr
      rw [if_neg (by simp),s6 hr]
      unfold jY jX
      cases decide (0≤n) <;> rfl
def EI (rs:List Bool) (i:Nat) (ring first:Bool) (a:cI):Bool:=y8 rs i a.Cell a.N && cond a.Pick (!ring && !first && y8 rs i a.Cell a.Else) ((a.Else:Int) == 0)
theorem u3 {ρ:Type} {B:Int→Option (Fl Int ρ)} (n:Nat) (p:Nat→Bool) {y r:ρ} (hgo:∀ k,k < n→p k=false→B (k:Int)=some (.go ((k + 1:Nat):Int))) (hy:∀ k,k < n→p k=true→B (k:Int)=some (.out y)) (hn:B (n:Int)=some (.out r)):loop B 0=some (if (List.range n).any p then y else r):=by
  have hx:∀ (k x:Nat),(List.range n)[k]? = some x→x=k∧k < n:=fun k x h=>by
    have hk:=bh h
    simp only [List.length_range] at hk
    rw [List.getElem?_range hk] at h
    exact ⟨(Option.some.inj h).symm,hk⟩
  refine ye (xs:=List.range n) p (fun k=>(k:Int)) rfl (fun k x h hp=>?_) (fun k x h hp=>?_) (by simpa using hn)
  · obtain ⟨rfl,hk⟩:=hx k x h
    exact hgo _ hk hp
  · obtain ⟨rfl,hk⟩:=hx k x h
    exact hy _ hk hp
def Am (rs:List Bool) (i:Nat) (r:aL) (k:Nat):Bool:=match r.Asks[k]? with
  | some a=>!EI rs i r.Ring (((k:Nat):Int) == 0) a
  | none=>false
def vZ (rs:List Bool) (i:Nat) (r:aL):Bool:=!((List.range r.Asks.length).any (Am rs i r))
def z6 (rs:List Bool) (i:Nat) (r:aL) (low high most:Int):Bool:=!decide ((6:Int) < (r.Asks.length:Int)) && !decide (r.Final < low) && !decide (high < r.Final) && !decide (r.C < 0) && !decide (most < r.C) && vZ rs i r
def zZ (rs:List Bool) (i:Nat) (r:aL):Bool:=cond r.Ring (z6 rs i r 5 5 65535) (z6 rs i r 1 4 999)
def HX (l:List aL):Prop:=l.length≤1000∧∀ r ∈ l,r.Asks.length≤1000
theorem Ca {l:List aL} {i:Nat} (h:i < l.length) (hl:HX l):loop (fun s:Int=>eM l (i:Int) l[i] s) 0=some (cond (vZ (be l) i l[i]) (Fl.go ()) (Fl.out false)):=by
  have hA:=hl.2 _ (List.getElem_mem h)
  have hB:=hl.1
  have hstep:∀ k,(hk:k < l[i].Asks.length)→eM l (i:Int) l[i] (k:Int)=some (cond (Am (be l) i l[i] k) (.out (.out false)) (.go ((k + 1:Nat):Int))):=fun k hk=>by
    unfold Am
    rw [List.getElem?_eq_getElem hk]
    dsimp only
    unfold eM EI dP
    rw [dlt hk,cond_true,bv hk,Option.bind_some,vf h (by omega),vf h (by omega),cT (by omega)]
    simp only [Option.bind_some,bne]
    generalize (((k:Nat):Int) == 0)=f
    generalize ((l[i].Asks[k].Else:Int) == 0)=z
    generalize y8 (be l) i l[i].Asks[k].Cell l[i].Asks[k].N=m1
    generalize y8 (be l) i l[i].Asks[k].Cell l[i].Asks[k].Else=m2
    generalize l[i].Asks[k].Pick=pk
    generalize l[i].Ring=rg
    cases pk <;> cases rg <;> cases f <;> cases m1 <;> cases m2 <;> cases z <;> rfl
  have e:=u3 (B:=fun s:Int=>eM l (i:Int) l[i] s) l[i].Asks.length (Am (be l) i l[i]) (y:=Fl.out false) (r:=Fl.go ()) (fun k hk hp=>by rw [hstep k hk,hp]; rfl) (fun k hk hp=>by rw [hstep k hk,hp]; rfl) (by unfold eM; rw [bQ]; rfl)
  rw [e]
  unfold vZ
  cases (List.range l[i].Asks.length).any (Am (be l) i l[i]) <;> rfl
def An (l:List aL) (k:Nat):Bool:=match l[k]? with
  | some r=>!zZ (be l) k r
  | none=>false
def xy (l:List aL):Bool:=decide ((l.length:Int)≤24) && !((List.range l.length).any (An l))
theorem AS {l:List aL} (hl:HX l):nv l=some (xy l):=by
  have hB:=hl.1
  unfold nv xy
  have hstep:∀ k,(hk:k < l.length)→fO l (k:Int)=some (cond (An l k) (.out (.out false)) (.go ((k + 1:Nat):Int))):=fun k hk=>by
    have hj:fN (k:Int) l[k]=some (cond ((cond l[k].Ring (!decide (l[k].Final < 5) && !decide (5 < l[k].Final) && !decide (l[k].C < 0) && !decide (65535 < l[k].C)) (!decide (l[k].Final < 1) && !decide (4 < l[k].Final) && !decide (l[k].C < 0) && !decide (999 < l[k].C)))) (.go ((k + 1:Nat):Int)) (.out (.out false))):=by
      unfold fN cO l8
      rw [cT (by omega)]
      cases hrg:l[k].Ring
      · cases decide (l[k].Final < 1) <;> cases decide (4 < l[k].Final) <;> cases decide (l[k].C < 0) <;> cases decide (999 < l[k].C) <;> rfl
      · by_cases h5:l[k].Final=5
        · rw [show ((l[k].Final:Int) != 5)=false by simp [h5],decide_eq_false (show ¬ l[k].Final < 5 by omega),decide_eq_false (show ¬ 5 < l[k].Final by omega)]
          cases decide (l[k].C < 0) <;> cases decide (65535 < l[k].C) <;> rfl
        · rw [show ((l[k].Final:Int) != 5)=true by simp [h5]]
          rcases (show l[k].Final < 5∨5 < l[k].Final by omega) with h | h
          · rw [decide_eq_true h]; rfl
          · rw [decide_eq_true h]; simp
    unfold An
    rw [List.getElem?_eq_getElem hk]
    dsimp only
    unfold fO zZ z6
    rw [dlt hk,cond_true,bv hk,Option.bind_some,Ca hk hl,Option.bind_some]
    have hel:∀ z:Bool,(cond z (Fl.go ()) (Fl.out false):Fl Unit Bool).el (fun s=>fN (k:Int) l[k]) (fun y=>some (.out (.out y)))=cond z (fN (k:Int) l[k]) (some (.out (.out false))):=fun z=>by cases z <;> rfl
    rw [hel,hj]
    generalize vZ (be l) k l[k]=z
    generalize decide ((6:Int) < (l[k].Asks.length:Int))=d6
    cases l[k].Ring
    · simp only [cond_false]
      generalize decide (l[k].Final < 1)=d1
      generalize decide (4 < l[k].Final)=d2
      generalize decide (l[k].C < 0)=d3
      generalize decide (999 < l[k].C)=d4
      cases z <;> cases d6 <;> cases d1 <;> cases d2 <;> cases d3 <;> cases d4 <;> rfl
    · simp only [cond_true]
      generalize decide (l[k].Final < 5)=d1
      generalize decide (5 < l[k].Final)=d2
      generalize decide (l[k].C < 0)=d3
      generalize decide (65535 < l[k].C)=d4
      cases z <;> cases d6 <;> cases d1 <;> cases d2 <;> cases d3 <;> cases d4 <;> rfl
  rw [u3 (B:=fun s:Int=>fO l s) l.length (An l) (y:=Fl.out false) (r:=Fl.go ()) (fun k hk hp=>by rw [hstep k hk,hp]; rfl) (fun k hk hp=>by rw [hstep k hk,hp]; rfl) (by unfold fO; rw [bQ]; rfl)]
  unfold l7
  cases (List.range l.length).any (An l) <;> simp [Fl.el]
theorem y7 {l:List aL} (h:bx l):xy l=true:=by
  unfold xy
  have h8:=h.high
  rw [decide_eq_true (by omega),Bool.true_and,Bool.not_eq_true',List.any_eq_false]
  intro i hi
  have hi:=List.mem_range.1 hi
  unfold An
  have hg:=List.getElem?_eq_getElem hi
  rw [hg]
  dsimp only
  have hR:=h.each i l[i] hg
  have ha:vZ (be l) i l[i]=true:=by
    unfold vZ
    rw [Bool.not_eq_true',List.any_eq_false]
    intro k hk
    have hk:=List.mem_range.1 hk
    unfold Am
    have hka:=List.getElem?_eq_getElem hk
    rw [hka]
    dsimp only
    have hA:=hR.each k _ hka
    generalize l[i].Asks[k]=a at hA
    unfold EI y8
    have hn:=hA.low
    have he:=hA.low2
    rw [decide_eq_true hn,decide_eq_true he,Bool.true_and,Bool.true_and]
    have c1:cond a.Cell (decide (a.N≤15)) (decide (a.N < (xF (be l) i:Int)))=true:=by
      cases hc:a.Cell
      · exact decide_eq_true (hA.rule hc)
      · have:=hA.cell hc
        exact decide_eq_true (by omega)
    have c2:cond a.Cell (decide (a.Else≤15)) (decide (a.Else < (xF (be l) i:Int)))=true:=by
      cases hc:a.Cell
      · exact decide_eq_true (hA.rule2 hc)
      · have:=hA.cell2 hc
        exact decide_eq_true (by omega)
    rw [c1,c2,Bool.true_and]
    cases hp:a.Pick
    · rw [hA.none hp]; simp
    · obtain ⟨p1,p2⟩:=hA.pick hp
      rw [p1,show (((k:Nat):Int) == 0)=false by simp; omega]; simp
  have hb:zZ (be l) i l[i]=true:=by
    have hl:=hR.asks
    unfold zZ z6
    rw [ha,decide_eq_false (show ¬ (6:Int) < (l[i].Asks.length:Int) by omega)]
    cases hr:l[i].Ring
    · obtain ⟨q1,q2,q3,q4⟩:=hR.plain hr
      rw [cond_false,decide_eq_false (show ¬ l[i].Final < 1 by omega),decide_eq_false (show ¬ 4 < l[i].Final by omega),decide_eq_false (show ¬ l[i].C < 0 by omega),decide_eq_false (show ¬ 999 < l[i].C by omega)]; rfl
    · obtain ⟨q1,q2,q3⟩:=hR.ring hr
      rw [cond_true,decide_eq_false (show ¬ l[i].Final < 5 by omega),decide_eq_false (show ¬ 5 < l[i].Final by omega),decide_eq_false (show ¬ l[i].C < 0 by omega),decide_eq_false (show ¬ 65535 < l[i].C by omega)]; rfl
  rw [hb]; decide
theorem bx.bnd {l:List aL} (h:bx l):HX l:=⟨by have:=h.high; omega,fun r hr=>by
  obtain ⟨i,hi⟩:=List.mem_iff_getElem?.1 hr
  have:=(h.each i r hi).asks; omega⟩
theorem F2 (n:Int) {m:Int} (hm:0 < m) (hm2:m≤1000000000):Ok (ot n m) fun r=>0≤r∧r < m:=by
  obtain ⟨k,rfl⟩:∃ k:Nat,m=k:=⟨m.toNat,by omega⟩
  obtain ⟨r,hr,e⟩:=BQ n (m:=k) (by omega) (by omega)
  exact ⟨_,e,by omega,by omega⟩
end
section
open Go.RowKit
open Go.Lib hiding intOf
def fH (s:ByteArray):Int:=if sh s.toList < 0 then 0 else if 65535 < sh s.toList then 0 else sh s.toList
theorem yB (s:ByteArray):lC s=some (fH s):=by
  unfold lC fH
  rw [Br,Option.bind_some]
  by_cases h1:sh s.toList < 0
  · simp [h1]
  · by_cases h2:65535 < sh s.toList
    · simp [h1,h2]
    · simp [h1,h2]
theorem gL (s:ByteArray):0≤fH s∧fH s≤65535:=by
  unfold fH
  split
  · omega
  · split <;> omega
theorem sV {n:Nat} (h:n < 65536):fH (cz n)=n:=by
  unfold fH
  rw [pK,nn,xR (by omega),if_neg (by omega),if_neg (by omega)]
theorem rh:∀ {l:List Int},(∀ x ∈ l,0≤x∧x≤65535)→0≤l.sum∧l.sum≤65535 * l.length
  | [],_=>by simp
  | a :: l,h=>by
    have h1:=rh (l:=l) fun x hx=>h x (List.mem_cons_of_mem _ hx)
    have h2:=h a List.mem_cons_self
    simp only [List.sum_cons,List.length_cons]
    omega
def qr (r:aL) (ls:List ByteArray):Int :=
  let s:=r.C + (ls.map fH).sum
  if r.Final=1 then s.tmod 1000 else if r.Final=2 then (s.tdiv 2).tmod 1000 else if r.Final=3 then (ls.map fH).foldl max r.C else if r.Final=4 then s.tmod 2 else (ls.map fH).foldl (fun a b=>w6 .or .i64 a b) r.C
theorem DL {α:Type} {l:List α} {k:Nat} (h:k < l.length):l.take (k + 1)=l.take k ++ [l[k]]:=by rw [List.take_add_one,List.getElem?_eq_getElem h]; rfl
theorem Bx {r:aL} {ls:List ByteArray} (hc:0≤r.C∧r.C≤65535) (hl:ls.length≤1000):nw r ls=some (qr r ls):=by
  have hb:∀ x ∈ ls.map fH,0≤x∧x≤65535:=fun x hx=>by
    obtain ⟨s,_,rfl⟩:=List.mem_map.1 hx
    exact gL s
  have h1:loop (fun s:Int×Int×Int×Int=>hU ls s.1 s.2.1 s.2.2.1 s.2.2.2) (r.C,r.C,r.C,0)=some (r.C + (ls.map fH).sum,(ls.map fH).foldl max r.C,(ls.map fH).foldl (fun a b=>w6 .or .i64 a b) r.C):=by
    refine ug (I:=fun k s=>s=(r.C + ((ls.take k).map fH).sum,((ls.take k).map fH).foldl max r.C,((ls.take k).map fH).foldl (fun a b=>w6 .or .i64 a b) r.C,(k:Int))) _ ls.length ?_ ?_ (by simp)
    · rintro k _ hk rfl
      left
      refine ⟨_,?_,rfl⟩
      unfold hU
      have hs:=rh (l:=(ls.take k).map fH) fun x hx=>by
        obtain ⟨s,_,rfl⟩:=List.mem_map.1 hx
        exact gL s
      have hlen:((ls.take k).map fH).length≤1000:=by rw [List.length_map,List.length_take]; omega
      have hx:=gL ls[k]
      dsimp only
      rw [dlt hk,cond_true,bv hk,Option.bind_some,yB,Option.bind_some,nJ (by omega) (by omega),nJ (by omega) (by omega),DL hk]
      simp only [List.map_append,List.map_cons,List.map_nil,List.sum_append,List.foldl_append,List.foldl_cons,List.foldl_nil,List.sum_cons,List.sum_nil,Int.add_zero,Int.natCast_add,Int.natCast_one,Int.add_assoc]
    · rintro _ rfl
      unfold hU
      rw [bQ]
      simp
  have hs:=rh hb
  rw [List.length_map] at hs
  unfold nw ju qr
  rw [h1,Option.bind_some]
  simp only []
  by_cases f1:r.Final=1
  · simp [f1]
  · by_cases f2:r.Final=2
    · have ht:0≤(r.C + (ls.map fH).sum).tdiv 2∧(r.C + (ls.map fH).sum).tdiv 2≤r.C + (ls.map fH).sum:=by
        rw [Int.tdiv_eq_ediv_of_nonneg (by omega)]; omega
      simp only [f2]
      rw [nJ (by omega) (by omega)]
      simp
    · by_cases f3:r.Final=3
      · simp [f3]
      · by_cases f4:r.Final=4
        · simp [f4]
        · have hb:∀ n:Int,r.Final ≠ n→(r.Final == n)=false:=fun n h=>by simpa using h
          rw [hb 1 f1,hb 2 f2,hb 3 f3,hb 4 f4]
          simp [f1,f2,f3,f4]
theorem Hn {a b:Nat} (ha:a < 65536) (hb:b < 65536):w6 .or .i64 (a:Int) (b:Int)=((a ||| b:Nat):Int)∧a ||| b < 65536:=by
  have h:=Nat.or_lt_two_pow (n:=16) ha hb
  refine ⟨?_,h⟩
  unfold w6
  simp only [show IntKind.i64.bits=64 from rfl]
  rw [BitVec.toNat_or,BitVec.toNat_ofInt,BitVec.toNat_ofInt,show ((a:Int) % ((2 ^ IntKind.i64.bits:Nat):Int)).toNat=a by rw [show IntKind.i64.bits=64 from rfl]; omega,show ((b:Int) % ((2 ^ IntKind.i64.bits:Nat):Int)).toNat=b by rw [show IntKind.i64.bits=64 from rfl]; omega]
  exact nJ (by omega) (by omega)
theorem w4:∀ (l:List Nat) (a:Nat),(∀ x ∈ l,x≤65535)→a < 65536→(l.map fun x:Nat=>(x:Int)).foldl (fun a b=>w6 .or .i64 a b) (a:Int)=((l.foldl (· ||| ·) a:Nat):Int)∧l.foldl (· ||| ·) a < 65536
  | [],a,_,ha=>⟨rfl,ha⟩
  | x :: l,a,h,ha=>by
    have hx:=h x List.mem_cons_self
    obtain ⟨h1,h2⟩:=Hn ha (show x < 65536 by omega)
    simp only [List.map_cons,List.foldl_cons,h1]
    exact w4 l _ (fun y hy=>h y (List.mem_cons_of_mem _ hy)) h2
theorem rQ {l:List aL} {n:Nat} {r:aL} (hR:bx l) (h:l[n]? = some r) {ls:List ByteArray} (hl:ls.length≤3):∃ m:Nat,qr r ls=m∧m < 65536:=by
  have hb:∀ x ∈ ls.map fH,0≤x∧x≤65535:=fun x hx=>by
    obtain ⟨s,_,rfl⟩:=List.mem_map.1 hx
    exact gL s
  have hs:=rh hb
  rw [List.length_map] at hs
  have hr:=hR.each n r h
  unfold qr
  dsimp only
  cases hg:r.Ring with
  | false =>
    obtain ⟨h1,h2,h3,h4⟩:=hr.plain hg
    have key:∀ z:Int,0≤z→z < 65536→∃ m:Nat,z=m∧m < 65536:=fun z h1 h2=>⟨z.toNat,by omega,by omega⟩
    by_cases f1:r.Final=1
    · rw [if_pos f1]
      refine key _ (Int.tmod_nonneg _ (by omega)) ?_
      have:=Int.tmod_lt_of_pos (r.C + (ls.map fH).sum) (b:=1000) (by omega)
      omega
    · rw [if_neg f1]
      by_cases f2:r.Final=2
      · rw [if_pos f2]
        have ht:0≤(r.C + (ls.map fH).sum).tdiv 2:=by rw [Int.tdiv_eq_ediv_of_nonneg (by omega)]; omega
        refine key _ (Int.tmod_nonneg _ ht) ?_
        have:=Int.tmod_lt_of_pos ((r.C + (ls.map fH).sum).tdiv 2) (b:=1000) (by omega)
        omega
      · rw [if_neg f2]
        by_cases f3:r.Final=3
        · rw [if_pos f3]
          have hm:∀ (xs:List Int) (c:Int),(∀ x ∈ xs,0≤x∧x≤65535)→0≤c→c≤65535→0≤xs.foldl max c∧xs.foldl max c≤65535:=by
            intro xs
            induction xs with
            | nil=>intro c _ h1 h2; exact ⟨h1,h2⟩
            | cons x xs ih =>
              intro c hx h1 h2
              have:=hx x List.mem_cons_self
              exact ih _ (fun y hy=>hx y (List.mem_cons_of_mem _ hy)) (by omega) (by omega)
          have:=hm (ls.map fH) r.C hb (by omega) (by omega)
          exact key _ this.1 (by omega)
        · rw [if_neg f3,if_pos (by omega)]
          refine key _ (Int.tmod_nonneg _ (by omega)) ?_
          have:=Int.tmod_lt_of_pos (r.C + (ls.map fH).sum) (b:=2) (by omega)
          omega
  | true =>
    obtain ⟨h1,h2,h3⟩:=hr.ring hg
    rw [if_neg (by omega),if_neg (by omega),if_neg (by omega),if_neg (by omega)]
    obtain ⟨c,hc⟩:∃ c:Nat,r.C=c:=⟨r.C.toNat,by omega⟩
    have e:ls.map fH=(ls.map fun s=>(fH s).toNat).map fun x:Nat=>(x:Int):=by
      rw [List.map_map]
      refine List.map_congr_left fun s _=>?_
      have:=gL s
      simp only [Function.comp]
      omega
    rw [e,hc]
    have:=w4 (ls.map fun s=>(fH s).toNat) c (fun x hx=>by
      obtain ⟨s,_,rfl⟩:=List.mem_map.1 hx
      have:=gL s
      omega) (by omega)
    exact ⟨_,this.1,this.2⟩
end
section
open Go.RowKit
open Go.Lib hiding intOf
theorem zC:∀ a:List UInt8,compareBytes a a=0
  | []=>rfl
  | x :: r=>by
    have:¬ x < x:=UInt8.lt_irrefl x
    simp [compareBytes,this,zC r]
theorem D4:∀ {a b:List UInt8},compareBytes a b=0→a=b
  | [],[],_=>rfl
  | [],_ :: _,h=>by simp [compareBytes] at h
  | _ :: _,[],h=>by simp [compareBytes] at h
  | x :: a,y :: b,h=>by
    unfold compareBytes at h
    split at h
    · cases h
    · split at h
      · cases h
      · rename_i h1 h2
        have e:x=y:=UInt8.le_antisymm (UInt8.not_lt.1 h2) (UInt8.not_lt.1 h1)
        rw [e,D4 h]
theorem zB:∀ a b:List UInt8,compareBytes b a = -compareBytes a b
  | [],[]=>rfl
  | [],_ :: _=>rfl
  | _ :: _,[]=>rfl
  | x :: a,y :: b=>by
    unfold compareBytes
    by_cases h1:x < y
    · have h2:¬ y < x:=fun h=>UInt8.lt_irrefl _ (UInt8.lt_trans h1 h)
      simp [h1,h2]
    · by_cases h2:y < x
      · simp [h1,h2]
      · simp [h1,h2,zB a b]
theorem Be (a b:List UInt8):compareBytes a b = -1∨compareBytes a b=0∨compareBytes a b=1:=by
  induction a generalizing b with
  | nil=>cases b <;> simp [compareBytes]
  | cons x a ih =>
    cases b with
    | nil=>simp [compareBytes]
    | cons y b =>
      unfold compareBytes
      split
      · simp
      · split
        · simp
        · exact ih b
theorem xN:∀ {a b c:List UInt8},compareBytes a b < 0→compareBytes b c < 0→compareBytes a c < 0
  | [],[],_,h,_=>by simp [compareBytes] at h
  | [],_ :: _,[],_,h=>by simp [compareBytes] at h
  | [],_ :: _,_ :: _,_,_=>by simp [compareBytes]
  | _ :: _,[],_,h,_=>by simp [compareBytes] at h
  | _ :: _,_ :: _,[],_,h=>by simp [compareBytes] at h
  | x :: a,y :: b,z :: c,h1,h2=>by
    unfold compareBytes at h1 h2 ⊢
    by_cases e1:x < y
    · by_cases e2:y < z
      · simp [UInt8.lt_trans e1 e2]
      · by_cases e3:z < y
        · simp [e2,e3] at h2
        · have e:y=z:=UInt8.le_antisymm (UInt8.not_lt.1 e3) (UInt8.not_lt.1 e2)
          subst e; simp [e1]
    · by_cases e2:y < x
      · simp [e1,e2] at h1
      · have e:x=y:=UInt8.le_antisymm (UInt8.not_lt.1 e2) (UInt8.not_lt.1 e1)
        subst e
        simp only [e1,if_false] at h1
        by_cases e3:x < z
        · simp [e3]
        · by_cases e4:z < x
          · simp [e3,e4] at h2
          · simp only [e3,e4,if_false] at h2 ⊢
            exact xN h1 h2
def bS (a b:ae):Int:=if a.Kind < b.Kind then -1 else if b.Kind < a.Kind then 1 else compareBytes a.Text.toList b.Text.toList
theorem toList_inj {a b:ByteArray} (h:a.toList=b.toList):a=b:=by
  rw [ByteArray.toList_eq,ByteArray.toList_eq] at h
  exact ByteArray.ext (Array.toList_inj.1 h)
theorem td (a:ae):bS a a=0:=by simp [bS,zC]
theorem Du {a b:ae} (h:bS a b=0):a=b:=by
  unfold bS at h
  split at h
  · cases h
  · split at h
    · cases h
    · obtain ⟨k,t⟩:=a
      obtain ⟨l,s⟩:=b
      simp only [ae.mk.injEq] at *
      exact ⟨by omega,toList_inj (D4 h)⟩
theorem tc (a b:ae):bS b a = -bS a b:=by
  unfold bS
  by_cases h1:a.Kind < b.Kind
  · have h2:¬ b.Kind < a.Kind:=by omega
    simp [h1,h2]
  · by_cases h2:b.Kind < a.Kind
    · simp [h1,h2]
    · simp [h1,h2,zB a.Text.toList]
theorem ol (a b:ae):bS a b = -1∨bS a b=0∨bS a b=1:=by
  unfold bS
  split
  · simp
  · split
    · simp
    · exact Be _ _
theorem li {a b c:ae} (h1:bS a b < 0) (h2:bS b c < 0):bS a c < 0:=by
  unfold bS at h1 h2 ⊢
  by_cases e1:a.Kind < b.Kind
  · by_cases e2:b.Kind < c.Kind
    · rw [if_pos (by omega)]; omega
    · by_cases e3:c.Kind < b.Kind
      · simp [e2,e3] at h2
      · rw [if_pos (by omega)]; omega
  · by_cases e2:b.Kind < a.Kind
    · simp [e1,e2] at h1
    · simp only [e1,e2,if_false] at h1
      by_cases e3:b.Kind < c.Kind
      · rw [if_pos (by omega)]; omega
      · by_cases e4:c.Kind < b.Kind
        · simp [e3,e4] at h2
        · simp only [e3,e4,if_false] at h2
          rw [if_neg (by omega),if_neg (by omega)]
          exact xN h1 h2
theorem lS {a b:ae}:0 < bS a b↔bS b a < 0:=by rw [tc a b]; omega
theorem uX {a:ae}:¬ bS a a < 0:=by rw [td]; omega
theorem AG {a b:ae} (h:bS a b < 0):¬ bS b a < 0:=by rw [tc a b]; omega
theorem oO {a b:ae} (h:bS a b < 0):a ≠ b:=fun e=>by subst e; exact uX h
theorem sr (a b:ae):bS a b < 0∨a=b∨bS b a < 0:=by
  rcases ol a b with h | h | h
  · exact .inl (by omega)
  · exact .inr (.inl (Du h))
  · exact .inr (.inr (by rw [tc a b]; omega))
theorem oY {a b c:ae} (h1:¬ bS b a < 0) (h2:bS b c < 0):bS a c < 0:=by
  rcases sr a b with h | h | h
  · exact li h h2
  · subst h; exact h2
  · exact absurd h h1
def dh (a b:ae):Bool:=a.Kind == b.Kind && a.Text.toList == b.Text.toList
theorem fK {a b:ae}:dh a b=true↔a=b:=by
  unfold dh
  obtain ⟨k,t⟩:=a
  obtain ⟨l,s⟩:=b
  simp only [Bool.and_eq_true,beq_iff_eq,ae.mk.injEq]
  exact ⟨fun h=>⟨h.1,toList_inj h.2⟩,fun h=>⟨h.1,by rw [h.2]⟩⟩
theorem qV {a b:ae}:dh a b=false↔a ≠ b:=by rw [← Bool.not_eq_true,fK]
theorem CZ (x y:Int):nh x y=some (if x < y then -1 else if y < x then 1 else 0):=by
  unfold nh ku
  by_cases h1:x < y
  · simp [h1]
  · by_cases h2:y < x <;> simp [h1,h2]
theorem F6 (a b:Int):uF [a,b]=some (if a ≠ 0 then a else b):=by
  unfold uF
  by_cases h:a=0
  · subst h
    rw [xg (s':=1)]
    · by_cases hb:b=0
      · subst hb
        rw [xg (s':=2)]
        · rw [nr (r:=.go ())]
          · rfl
          · rfl
        · rfl
      · rw [nr (r:=.out b)]
        · simp [Fl.el]
        · unfold pm
          have:(b != 0)=true:=by simpa using hb
          simp [bm,this]
    · rfl
  · rw [nr (r:=.out a)]
    · simp [Fl.el,h]
    · unfold pm
      have:(a != 0)=true:=by simpa using h
      simp [bm,this]
theorem y3 (a b:ae):pM a b=some (bS a b):=by
  unfold pM bS pn
  rw [CZ]
  simp only [Option.bind_some]
  rw [F6]
  by_cases h1:a.Kind < b.Kind
  · simp [h1]
  · by_cases h2:b.Kind < a.Kind <;> simp [h1,h2]
section
variable {κ ν:Type} {q:κ→κ→Bool} (hq:∀ a b,q a b=true↔a=b)
def Nd (xs:List (κ×ν)):Prop:=(xs.map (·.1)).Nodup
include hq
theorem ov (a:κ):q a a=true:=(hq a a).2 rfl
theorem tn {a b:κ} (h:a ≠ b):q a b=false:=by rw [← Bool.not_eq_true,hq]; exact h
theorem qz {k:κ} {v:ν}:∀ {xs:List (κ×ν)},Nd xs→(bH q k xs=some v↔(k,v) ∈ xs)
  | [],_=>by simp [bH]
  | x :: r,h=>by
    have h':=List.nodup_cons.1 (show (x.1 :: r.map (·.1)).Nodup from h)
    have ih:=qz (k:=k) (v:=v) (xs:=r) h'.2
    by_cases e:k=x.1
    · subst e
      rw [bH,ov hq,cond_true]
      constructor
      · intro h; injection h with h; rw [← h]; exact List.mem_cons_self
      · intro hm
        rcases List.mem_cons.1 hm with hm | hm
        · rw [← hm]
        · exact absurd (List.mem_map_of_mem (f:=(·.1)) hm) h'.1
    · rw [bH,tn hq e,cond_false,ih,List.mem_cons]
      constructor
      · exact .inr
      · rintro (h | h)
        · exact absurd (congrArg (·.1) h) e
        · exact h
theorem wv {k:κ}:∀ {xs:List (κ×ν)},bH q k xs=none↔∀ v,(k,v) ∉ xs
  | []=>by simp [bH]
  | x :: r=>by
    by_cases e:k=x.1
    · rw [bH,e,ov hq,cond_true]
      constructor
      · intro h; cases h
      · intro h; exact absurd List.mem_cons_self (h x.2)
    · rw [bH,tn hq e,cond_false,wv]
      constructor
      · intro h v hv
        rcases List.mem_cons.1 hv with hv | hv
        · exact e (congrArg (·.1) hv)
        · exact h v hv
      · intro h v hv; exact h v (List.mem_cons_of_mem _ hv)
theorem sx (k k':κ) (v:ν):∀ (xs:List (κ×ν)),bH q k (cX q k' v xs)=if q k k' then some v else bH q k xs
  | []=>by simp [cX,bH,Bool.cond_eq_ite]
  | x :: r=>by
    by_cases e:k'=x.1
    · rw [cX,e,ov hq,cond_true,bH,bH]
      cases q k x.1 <;> simp
    · rw [cX,tn hq e,cond_false,bH,bH,sx k k' v r]
      by_cases e2:k=x.1
      · have:q k k'=false:=tn hq (fun h=>e (h.symm.trans e2))
        rw [e2,ov hq,cond_true,cond_true,← e2,this]; rfl
      · rw [tn hq e2]; rfl
theorem ti (k:κ) (v:ν):∀ {xs:List (κ×ν)},Nd xs→(cX q k v xs).Perm ((k,v) :: xs.filter fun y=>!q k y.1)
  | [],_=>by simp [cX]
  | x :: r,h=>by
    have h':=List.nodup_cons.1 (show (x.1 :: r.map (·.1)).Nodup from h)
    by_cases e:k=x.1
    · rw [cX,e,ov hq,cond_true,List.filter_cons_of_neg (by simp [ov hq])]
      rw [List.filter_eq_self.2]
      intro y hy
      rw [tn hq]; rfl
      intro e2
      exact h'.1 (e2 ▸ List.mem_map_of_mem hy)
    · rw [cX,tn hq e,cond_false,List.filter_cons_of_pos (by simp [tn hq e])]
      exact ((ti k v h'.2).cons x).trans (List.Perm.swap _ _ _)
theorem qx (k:κ):∀ {xs:List (κ×ν)},Nd xs→oZ q k xs=xs.filter fun y=>!q k y.1
  | [],_=>rfl
  | x :: r,h=>by
    have h':=List.nodup_cons.1 (show (x.1 :: r.map (·.1)).Nodup from h)
    by_cases e:k=x.1
    · rw [oZ,e,ov hq,cond_true,List.filter_cons_of_neg (by simp [ov hq])]
      rw [List.filter_eq_self.2]
      intro y hy
      rw [tn hq]; rfl
      intro e2
      exact h'.1 (e2 ▸ List.mem_map_of_mem hy)
    · rw [oZ,tn hq e,cond_false,List.filter_cons_of_pos (by simp [tn hq e]),qx k h'.2]
omit hq in
theorem Nd.perm {xs ys:List (κ×ν)} (h:Nd xs) (p:xs.Perm ys):Nd ys:=(p.map _).nodup_iff.1 h
omit hq in
theorem Nd.filter {xs:List (κ×ν)} (h:Nd xs) (p:κ×ν→Bool):Nd (xs.filter p):=h.sublist (List.Sublist.map _ List.filter_sublist)
theorem Nd.put {xs:List (κ×ν)} (h:Nd xs) (k:κ) (v:ν):Nd (cX q k v xs):=by
  refine Nd.perm ?_ (ti hq k v h).symm
  show (k :: (xs.filter fun y=>!q k y.1).map (·.1)).Nodup
  refine List.nodup_cons.2 ⟨fun hm=>?_,h.filter _⟩
  obtain ⟨y,hy,e⟩:=List.mem_map.1 hm
  have:=(List.mem_filter.1 hy).2
  rw [e,ov hq] at this
  cases this
theorem Nd.del {xs:List (κ×ν)} (h:Nd xs) (k:κ):Nd (oZ q k xs):=by rw [qx hq k h]; exact h.filter _
theorem BP (k k':κ) {xs:List (κ×ν)} (h:Nd xs):bH q k (oZ q k' xs)=if q k k' then none else bH q k xs:=by
  rw [qx hq k' h]
  by_cases e:k=k'
  · subst e
    rw [ov hq,if_pos rfl,wv hq]
    intro v hv
    have:=(List.mem_filter.1 hv).2
    simp [ov hq] at this
  · rw [tn hq e,if_neg (by simp)]
    refine Option.ext fun v=>?_
    rw [qz hq (h.filter _),qz hq h,List.mem_filter]
    simp [tn hq (fun h=>e h.symm)]
end
end
section
open Go.RowKit
open Go.Lib hiding intOf
def A7 (l:List ae):Prop:=l.Pairwise fun a b=>bS a b < 0
structure tD (l m:List ae):Prop where
  asc:A7 m
  mem:∀ x,x ∈ m↔x ∈ l
  len:m.length≤l.length
def CH (l:List al):Prop:=Rm l.length∧∀ r ∈ l,Rm r.Reads.length
def zw (l:List al):Prop:=l.Pairwise fun a b=>bS a.Key b.Key < 0
def nM (l:List al) (r:al):List al:=(l.filter fun x=>decide (bS x.Key r.Key < 0)) ++ r :: (l.filter fun x=>decide (0 < bS x.Key r.Key))
theorem pv (a:ae):dh a a=true:=fK.2 rfl
theorem wr (a b:ae):dh a b=dh b a:=by
  by_cases h:a=b
  · rw [h]
  · rw [qV.2 h,qV.2 fun e=>h e.symm]
def IP:al:=⟨⟨0,⟨#[]⟩⟩,⟨#[]⟩,[],0,0,0,false⟩
def bX (l:List al) (k:ae):al×Bool:=match l.find? (fun r=>dh r.Key k) with | some r=>(r,true) | none=>(IP,false)
theorem zL {α:Type} {p:α→Bool} {l:List α} {k:Nat} {x:α} (h1:l[k]? = some x) (h2:p x=true) (h3:∀ j z,j < k→l[j]? = some z→p z=false):l.find? p=some x:=by
  obtain ⟨h,e⟩:=List.getElem?_eq_some_iff.1 h1
  have:l=l.take k ++ x :: l.drop (k + 1):=by rw [← e]; simp
  rw [this,List.find?_append,List.find?_cons_of_pos h2]
  have:(l.take k).find? p=none:=by
    rw [List.find?_eq_none]
    intro z hz
    obtain ⟨j,hj⟩:=List.mem_iff_getElem?.1 hz
    rw [List.getElem?_take] at hj
    split at hj
    · rename_i hjk
      rw [h3 j z hjk hj]; simp
    · cases hj
  rw [this]; rfl
theorem mQ (a b:ae):iW a b=some (bS a b):=by
  unfold iW bS pn
  by_cases h1:a.Kind < b.Kind
  · simp [h1]
  · by_cases h2:b.Kind < a.Kind <;> simp [h1,h2]
theorem ob {r:al} (h:Rm r.Reads.length):fu r=some r:=by
  unfold fu Rm at *
  rw [show bG (([]:List ae).length + r.Reads.length)=true from eH (by simp; omega)]; rfl
theorem wD {l:List al} {r:al} (h:zw l) (hl:Rm l.length) (hr:Rm r.Reads.length):jZ l r=some (nM l r):=by
  unfold Rm at hl
  have hpl:∀ i,((l.take i).filter fun x=>decide (bS x.Key r.Key < 0)).length + ((l.take i).filter fun x=>decide (0 < bS x.Key r.Key)).length≤l.length:=fun i=>by
    have h1:∀ m:List al,(m.filter fun x=>decide (bS x.Key r.Key < 0)).length + (m.filter fun x=>decide (0 < bS x.Key r.Key)).length≤m.length:=by
      intro m
      induction m with
      | nil=>simp
      | cons y m ih =>
        by_cases a:bS y.Key r.Key < 0
        · rw [List.filter_cons_of_pos (by simpa using a),List.filter_cons_of_neg (by simp; omega)]; simp only [List.length_cons]; omega
        · by_cases b:0 < bS y.Key r.Key
          · rw [List.filter_cons_of_neg (by simpa using a),List.filter_cons_of_pos (by simpa using b)]; simp only [List.length_cons]; omega
          · rw [List.filter_cons_of_neg (by simpa using a),List.filter_cons_of_neg (by simpa using b)]; simp only [List.length_cons]; omega
    have:=h1 (l.take i)
    rw [List.length_take] at this; omega
  have key:Ok (jZ l r) fun y=>y=nM l r:=by
    unfold jZ
    refine Ok.loop (fun n t=>n≤l.length∧t.2.2=(n:Int)∧((t.1=l.take n∧t.2.1=false∧∀ x ∈ l.take n,bS x.Key r.Key < 0)∨(t.1=nM (l.take n) r∧t.2.1=true∧∃ x ∈ l.take n,¬ bS x.Key r.Key < 0)))
      (fun t=>(t.1=l∧t.2=false∧∀ x ∈ l,bS x.Key r.Key < 0)∨(t.1=nM l r∧t.2=true)) l.length ⟨Nat.zero_le _,rfl,.inl ⟨rfl,rfl,by simp⟩⟩ (fun n t hn hI=>?_) (fun t ht=>?_)
    · obtain ⟨out,put,i⟩:=t
      obtain ⟨_,h1,h2⟩:=hI
      dsimp only at h1 h2
      subst h1
      unfold nV
      dsimp only
      by_cases hi:n < l.length
      · have hx:l[n]? = some l[n]:=List.getElem?_eq_getElem hi
        obtain ⟨x,hxe⟩:∃ x,x=l[n]:=⟨_,rfl⟩
        rw [← hxe] at hx
        rw [dlt hi,cond_true,bk,hx,Option.bind_some,mQ,Option.bind_some]
        have tk:=cw hx
        have hle:=hpl n
        rcases h2 with ⟨rfl,rfl,h3⟩ | ⟨rfl,rfl,y,hy,h3⟩
        · have e0:((l.take n).filter fun x=>decide (bS x.Key r.Key < 0))=l.take n:=List.filter_eq_self.2 fun x hx=>by simpa using h3 x hx
          have e1:((l.take n).filter fun x=>decide (0 < bS x.Key r.Key))=[]:=List.filter_eq_nil_iff.2 fun x hx=>by have:=h3 x hx; simp; omega
          rcases ol x.Key r.Key with hc | hc | hc
          · rw [hc]
            unfold gz gy gx
            rw [show bG ((l.take n).length + [x].length)=true from eH (by simp; omega),cT (by omega)]
            refine Ok.ret ⟨hi,hi,rfl,.inl ⟨tk.symm,rfl,fun z hz=>?_⟩⟩
            rw [tk] at hz
            rcases List.mem_append.1 hz with hz | hz
            · exact h3 z hz
            · simp only [List.mem_cons,List.not_mem_nil,or_false] at hz; subst hz; omega
          · rw [hc]
            unfold gz gy gx
            rw [ob hr,cT (by omega)]
            simp only [Option.bind_some]
            rw [show bG ((l.take n).length + [r].length)=true from eH (by simp; omega)]
            refine Ok.ret ⟨hi,hi,rfl,.inr ⟨?_,rfl,x,by rw [tk]; simp,by omega⟩⟩
            unfold nM
            rw [tk,List.filter_append,List.filter_append,e0,e1]
            simp [hc]
          · rw [hc]
            unfold gz gy gx
            rw [ob hr,cT (by omega)]
            simp only [Option.bind_some]
            rw [show bG ((l.take n).length + [r].length)=true from eH (by simp; omega),show bG ((l.take n ++ [r]).length + [x].length)=true from eH (by simp; omega)]
            refine Ok.ret ⟨hi,hi,rfl,.inr ⟨?_,rfl,x,by rw [tk]; simp,by omega⟩⟩
            unfold nM
            rw [tk,List.filter_append,List.filter_append,e0,e1]
            simp [hc]
        · have hyx:bS y.Key x.Key < 0:=by
            obtain ⟨j,hj⟩:=List.mem_iff_getElem?.1 hy
            rw [List.getElem?_take] at hj
            split at hj
            · rename_i hjn
              obtain ⟨q1,q2⟩:=List.getElem?_eq_some_iff.1 hj
              have:=List.pairwise_iff_getElem.1 h j n q1 hi hjn
              rw [q2,← hxe] at this; exact this
            · cases hj
          have hc:0 < bS x.Key r.Key:=by
            rw [lS]
            exact oY (b:=y.Key) h3 hyx
          have hc1:bS x.Key r.Key=1:=by rcases ol x.Key r.Key with h | h | h <;> omega
          rw [hc1]
          unfold gz gy gx
          rw [cT (by omega),show bG ((nM (l.take n) r).length + [x].length)=true from eH (by unfold nM; simp only [List.length_append,List.length_cons,List.length_nil]; omega)]
          refine Ok.ret ⟨hi,hi,rfl,.inr ⟨?_,rfl,y,by rw [tk]; exact List.mem_append_left _ hy,h3⟩⟩
          unfold nM
          rw [tk,List.filter_append,List.filter_append]
          simp [hc1]
      · have hn2:n=l.length:=by omega
        rw [hn2,bQ,cond_false]
        rw [hn2,List.take_length] at h2
        refine Ok.ret ?_
        rcases h2 with ⟨a,b,c⟩ | ⟨a,b,c⟩
        · exact .inl ⟨a,b,c⟩
        · exact .inr ⟨a,b⟩
    · obtain ⟨out,put⟩:=t
      dsimp only at ht
      unfold ma l9
      rcases ht with ⟨rfl,rfl,h3⟩ | ⟨rfl,rfl⟩
      · rw [ob hr]
        simp only [Bool.not_false,cond_true,Option.bind_some]
        rw [show bG (out.length + [r].length)=true from eH (by simp; omega)]
        refine Ok.ret ?_
        unfold nM
        rw [List.filter_eq_self.2 fun x hx=>by simpa using h3 x hx,List.filter_eq_nil_iff.2 fun x hx=>by have:=h3 x hx; simp; omega]
      · exact Ok.ret rfl
  obtain ⟨y,e,rfl⟩:=key
  exact e
theorem vS {l:List ae} (h:Rm l.length):jp l l=some true:=by
  unfold Rm at h
  unfold jp
  rw [show ((l.length:Int) != (l.length:Int))=false by simp,cond_false]
  refine ee (dZ (xs:=l) (fun i=>(i:Int)) rfl (r:=.go ()) (fun i x hx=>?_) ?_) rfl
  · unfold gw
    rw [lg hx,cond_true,bk,hx,Option.bind_some,Option.bind_some,cT (by have:=bh hx; omega)]
    show cond (!dh x x) _ _=_
    rw [pv]; rfl
  · unfold gw
    rw [bQ]; rfl
theorem B7 {l:List al} {r x:al} (h:x ∈ nM l r):x ∈ l∨x=r:=by
  unfold nM at h
  rcases List.mem_append.1 h with h | h
  · exact .inl (List.mem_filter.1 h).1
  · rcases List.mem_cons.1 h with h | h
    · exact .inr h
    · exact .inl (List.mem_filter.1 h).1
theorem yk {l:List al} (h:zw l) (r:al):zw (nM l r):=by
  unfold zw nM
  rw [List.pairwise_append]
  refine ⟨List.Pairwise.filter _ h,List.pairwise_cons.2 ⟨fun x hx=>?_,List.Pairwise.filter _ h⟩,fun x hx y hy=>?_⟩
  · have:=(List.mem_filter.1 hx).2
    simp only [decide_eq_true_eq] at this
    exact lS.1 this
  · have h1:=(List.mem_filter.1 hx).2
    simp only [decide_eq_true_eq] at h1
    rcases List.mem_cons.1 hy with rfl | hy
    · exact h1
    · have h2:=(List.mem_filter.1 hy).2
      simp only [decide_eq_true_eq] at h2
      exact li h1 (lS.1 h2)
theorem pZ {l:List al} (hl:CH l) (k:ae):cr l k=some (bX l k):=by
  have h1:=hl.1
  unfold Rm at h1
  unfold cr
  have key:=pP (B:=fun t:Int=>gI l k t) (xs:=l) (fun r=>dh r.Key k) (fun i=>(i:Int)) (s0:=0) rfl (y:=fun i x=>Fl.out (x,true)) (n:=Fl.go ()) (fun i x hx hp=>by
      unfold gI
      rw [lg hx,cond_true,bk,hx,Option.bind_some,cT (by have:=bh hx; omega)]
      show cond (dh x.Key k) _ _=_
      rw [hp]; rfl) (fun i x hx hp=>by
      unfold gI
      rw [lg hx,cond_true,bk,hx,Option.bind_some]
      show cond (dh x.Key k) _ _=_
      rw [hp,ob (hl.2 x (List.mem_of_getElem? hx))]; rfl) (by
      unfold gI
      rw [bQ]; rfl)
  unfold bX
  rcases key with ⟨i,x,h1,h2,h3,h4⟩ | ⟨h1,h2⟩
  · rw [h4,zL (p:=fun r=>dh r.Key k) h1 h2 h3]; rfl
  · rw [h2,show l.find? (fun r=>dh r.Key k)=none from List.find?_eq_none.2 fun x hx=>by rw [h1 x hx]; simp]; rfl
theorem pB {l:List ae} (hl:Rm l.length) (k:ae):iY l k=some (l.any fun x=>dh k x):=by
  unfold Rm at hl
  unfold iY
  refine ee (ye (xs:=l) (fun x=>dh k x) (fun i=>(i:Int)) rfl (y:=Fl.out true) (n:=Fl.go ()) (fun i x hx hp=>?_) (fun i x hx hp=>?_) ?_) ?_
  · unfold jW
    rw [lg hx,cond_true,bk,hx,Option.bind_some,cT (by have:=bh hx; omega)]
    show cond (dh x k) _ _=_
    rw [wr,hp]; rfl
  · unfold jW
    rw [lg hx,cond_true,bk,hx,Option.bind_some]
    show cond (dh x k) _ _=_
    rw [wr,hp]; rfl
  · unfold jW
    rw [bQ]; rfl
  · cases l.any fun x=>dh k x <;> rfl
theorem Dq {out:List ae} (h:A7 out) {i:Nat} {k:ae} (h1:∀ y ∈ out.take i,bS y k < 0) (h2:∀ y ∈ out.drop i,bS k y < 0):A7 (out.take i ++ [k] ++ out.drop i):=by
  unfold A7 at *
  rw [List.append_assoc,List.pairwise_append]
  refine ⟨h.sublist (List.take_sublist _ _),List.pairwise_cons.2 ⟨fun y hy=>h2 y hy,h.sublist (List.drop_sublist _ _)⟩,fun a ha b hb=>?_⟩
  rcases List.mem_cons.1 hb with rfl | hb
  · exact h1 a ha
  · exact li (h1 a ha) (h2 b hb)
theorem Ds {out:List ae} {i:Nat} {k x:ae}:x ∈ out.take i ++ [k] ++ out.drop i↔x ∈ out∨x=k:=by
  conv=>rhs; rw [← List.take_append_drop i out]
  simp only [List.mem_append,List.mem_cons,List.not_mem_nil,or_false]
  constructor
  · rintro ((h | h) | h)
    · exact .inl (.inl h)
    · exact .inr h
    · exact .inl (.inr h)
  · rintro ((h | h) | h)
    · exact .inl (.inl h)
    · exact .inr h
    · exact .inl (.inr h)
theorem rK {l:List ae} (hl:Rm l.length):∃ m,iz l=some m∧tD l m:=by
  unfold Rm at hl
  have key:Ok (iz l) fun m=>tD l m:=by
    unfold iz
    refine Ok.loop (fun n s=>s.2=(n:Int)∧n≤l.length∧tD (l.take n) s.1) (fun r=>tD l r) l.length ⟨rfl,Nat.zero_le _,List.Pairwise.nil,fun x=>by simp,by simp⟩ (fun n s hn hI=>?_) (fun r hr=>Ok.ret hr)
    obtain ⟨out,g⟩:=s
    obtain ⟨h1,h2,h3⟩:=hI
    dsimp only at h1 h3
    subst h1
    have hol:=h3.len
    rw [List.length_take] at hol
    unfold kU
    dsimp only
    by_cases hi:n < l.length
    · have hx:l[n]? = some l[n]:=List.getElem?_eq_getElem hi
      obtain ⟨k,hk⟩:∃ k,k=l[n]:=⟨_,rfl⟩
      rw [← hk] at hx
      rw [dlt hi,cond_true,bk,hx,Option.bind_some]
      have stay:k ∈ out→tD (l.take (n + 1)) out:=fun hm=>⟨h3.asc,fun x=>by
        rw [cw hx,List.mem_append,h3.mem]
        constructor
        · exact .inl
        · rintro (h | h)
          · exact h
          · simp only [List.mem_cons,List.not_mem_nil,or_false] at h
            subst h; exact (h3.mem _).1 hm,by rw [List.length_take]; omega⟩
      have put:∀ i:Nat,i≤out.length→(∀ y ∈ out.take i,bS y k < 0)→(∀ y ∈ out.drop i,bS k y < 0)→tD (l.take (n + 1)) (out.take i ++ [k] ++ out.drop i):=fun i hio q1 q2=>⟨Dq h3.asc q1 q2,fun x=>by
        rw [Ds,cw hx,List.mem_append,h3.mem]
        simp,by simp only [List.length_append,List.length_take,List.length_drop,List.length_cons,List.length_nil]; omega⟩
      have j3:∀ i:Nat,i≤out.length→(∀ y ∈ out.take i,bS y k < 0)→(∀ y ∈ out.drop i,bS k y < 0)→Ok (d8 out (n:Int) k (i:Int) true) fun r=>match r with
          | .go s'=>n < l.length∧s'.2=((n + 1:Nat):Int)∧n + 1≤l.length∧tD (l.take (n + 1)) s'.1
          | .out r=>tD l r:=fun i hio q1 q2=>by
        unfold d8 gl
        rw [cond_true,rc hio,Option.bind_some,uj hio,Option.bind_some,cT (by omega)]
        have r1:bG (([]:List ae).length + (out.take i).length)=true:=eH (by simp; omega)
        have r2:bG ((([]:List ae) ++ out.take i).length + [k].length)=true:=eH (by simp; omega)
        have r3:bG (((([]:List ae) ++ out.take i) ++ [k]).length + (out.drop i).length)=true:=eH (by simp; omega)
        rw [r1,r2,r3]
        simp only [gd,cond_true,List.nil_append]
        exact Ok.ret ⟨hi,rfl,hi,put i hio q1 q2⟩
      have inner:=pP (B:=fun t:Int=>fa out k t) (xs:=out) (fun y=>!decide (bS y k < 0)) (fun i=>(i:Int)) (s0:=0) rfl (y:=fun i _=>(i:Int)) (n:=(out.length:Int)) (fun i y hy hp=>by
          unfold fa
          simp only [Bool.not_eq_false'] at hp
          rw [lg hy,cond_true,bk,hy,Option.bind_some,mQ,Option.bind_some,hp,cond_true,cT (by have:=bh hy; omega)]) (fun i y hy hp=>by
          unfold fa
          simp only [Bool.not_eq_true'] at hp
          rw [lg hy,cond_true,bk,hy,Option.bind_some,mQ,Option.bind_some,hp,cond_false]) (by
          unfold fa
          rw [bQ]; rfl)
      rcases inner with ⟨i,y,a1,a2,a3,a4⟩ | ⟨a1,a2⟩
      · rw [a4,Option.bind_some]
        have hio:=bh a1
        have hge:¬ bS y k < 0:=by simpa using a2
        have hb:∀ z ∈ out.take i,bS z k < 0:=fun z hz=>by
          obtain ⟨j,hj⟩:=List.mem_iff_getElem?.1 hz
          rw [List.getElem?_take] at hj
          split at hj
          · rename_i hji
            simpa using a3 j z hji hj
          · cases hj
        unfold iG
        rw [show ((i:Int) == (out.length:Int))=false from by simp; omega,cond_false,bk,a1,Option.bind_some]
        show Ok (d8 out (n:Int) k (i:Int) (!dh y k)) _
        cases hq:dh y k
        · rw [Bool.not_false]
          refine (j3 i (by omega) hb fun z hz=>?_).mono fun y hy=>by cases y <;> exact hy
          have hyk:bS k y < 0:=by
            rcases sr y k with h | h | h
            · exact absurd h hge
            · exact absurd h (qV.1 hq)
            · exact h
          obtain ⟨j,hj⟩:=List.mem_iff_getElem?.1 hz
          rw [List.getElem?_drop] at hj
          obtain ⟨q1,q2⟩:=List.getElem?_eq_some_iff.1 hj
          obtain ⟨q3,q4⟩:=List.getElem?_eq_some_iff.1 a1
          by_cases hj0:j=0
          · subst hj0
            rw [Nat.add_zero,a1] at hj
            injection hj with hj
            rw [← hj]; exact hyk
          · have:=List.pairwise_iff_getElem.1 h3.asc i (i + j) q3 q1 (by omega)
            rw [q4,q2] at this
            exact li hyk this
        · unfold d8 gl
          rw [Bool.not_true,cond_false,cT (by omega)]
          exact Ok.ret ⟨hi,rfl,hi,stay (by rw [← fK.1 hq]; exact List.mem_of_getElem? a1)⟩
      · rw [a2,Option.bind_some]
        unfold iG
        rw [beq_self_eq_true,cond_true]
        refine (j3 out.length (Nat.le_refl _) (fun z hz=>?_) (fun z hz=>by rw [List.drop_length] at hz; cases hz)).mono fun y hy=>by cases y <;> exact hy
        rw [List.take_length] at hz
        simpa using a1 z hz
    · rw [Ax hi,cond_false]
      have:n=l.length:=by omega
      subst this
      rw [List.take_length] at h3
      exact Ok.ret h3
  obtain ⟨m,e,h⟩:=key
  exact ⟨m,e,h⟩
end
section
open Go.RowKit
open Go.Lib hiding intOf
instance Jt:DecidableEq ae:=fun a b=>decidable_of_iff (dh a b=true) fK
inductive ki {α:Type} (E:α→α→Prop) (x:α):α→Prop
  | refl:ki E x x
  | snoc {y z:α}:ki E x y→E y z→ki E x z
theorem ki.trans {α:Type} {E:α→α→Prop} {x y z:α} (h:ki E x y) (k:ki E y z):ki E x z:=by
  induction k with
  | refl=>exact h
  | snoc _ e ih=>exact .snoc ih e
theorem ki.head {α:Type} {E:α→α→Prop} {x y z:α} (h:E x y) (k:ki E y z):ki E x z:=(ki.snoc .refl h).trans k
def yP {α:Type} (E:α→α→Prop) (x z:α):Prop:=∃ y,ki E x y∧E y z
theorem yP.star {α:Type} {E:α→α→Prop} {x z:α} (h:yP E x z):ki E x z:=by obtain ⟨y,h1,h2⟩:=h; exact .snoc h1 h2
theorem ki.plus {α:Type} {E:α→α→Prop} {x z:α} (h:ki E x z) (hne:x ≠ z):yP E x z:=by
  cases h with
  | refl=>exact absurd rfl hne
  | snoc h1 h2=>exact ⟨_,h1,h2⟩
theorem mH {α:Type}:∀ {l m:List α},l.Nodup→(∀ x ∈ l,x ∈ m)→l.length≤m.length
  | [],m,_,_=>Nat.zero_le _
  | x :: l,m,h,hs=>by
    have h':=List.nodup_cons.1 h
    obtain ⟨a,b,rfl⟩:=List.append_of_mem (hs x List.mem_cons_self)
    have:=mH (l:=l) (m:=a ++ b) h'.2 fun y hy=>by
      have h1:=hs y (List.mem_cons_of_mem _ hy)
      rw [List.mem_append,List.mem_cons] at h1
      rw [List.mem_append]
      rcases h1 with h1 | rfl | h1
      · exact .inl h1
      · exact absurd hy h'.1
      · exact .inr h1
    simp only [List.length_cons,List.length_append] at this ⊢
    omega
theorem jg:∀ a b:ae,aA a b=true↔a=b:=fun a b=>fK (a:=a) (b:=b)
theorem B8 {m:List (ae×Bool)} {M:List ae} (h:∀ x,(bH aA x m).getD false=decide (x ∈ M)) (e:ae):∀ x,(bH aA x (cX aA e true m)).getD false=decide (x ∈ M ++ [e]):=fun x=>by
  rw [sx jg]
  by_cases hx:x=e
  · subst hx; rw [if_pos ((jg _ _).2 rfl)]; simp
  · rw [if_neg (fun h=>hx ((jg _ _).1 h)),h]; simp [hx]
section
variable {succ:ae→List ae} {filt:ae→Bool}
def yO (succ:ae→List ae) (filt:ae→Bool) (T:List ae) (i g:Nat) (x r:ae):Prop :=
  ∃ j,T[j]? = some x∧filt r=true∧((j < i∧r ∈ succ x)∨(j=i∧r ∈ (succ x).take g))
theorem yO.grow {T T':List ae} {i g:Nat} {x r:ae} (hi:i < T.length):yO succ filt (T ++ T') i g x r↔yO succ filt T i g x r:=by
  constructor
  · rintro ⟨j,h1,h2,h3⟩
    rw [List.getElem?_append_left (by omega)] at h1
    exact ⟨j,h1,h2,h3⟩
  · rintro ⟨j,h1,h2,h3⟩
    exact ⟨j,by rw [List.getElem?_append_left (by omega)]; exact h1,h2,h3⟩
theorem yO.step {T:List ae} {i g:Nat} {c e:ae} (hc:T[i]? = some c) (he:(succ c)[g]? = some e) {x r:ae}:yO succ filt T i (g + 1) x r↔yO succ filt T i g x r∨(x=c∧r=e∧filt e=true):=by
  constructor
  · rintro ⟨j,h1,h2,h3 | ⟨rfl,h3⟩⟩
    · exact .inl ⟨j,h1,h2,.inl h3⟩
    · rw [hc] at h1
      injection h1 with h1
      subst h1
      rw [cw he,List.mem_append,List.mem_singleton] at h3
      rcases h3 with h3 | rfl
      · exact .inl ⟨j,hc,h2,.inr ⟨rfl,h3⟩⟩
      · exact .inr ⟨rfl,rfl,h2⟩
  · rintro (⟨j,h1,h2,h3 | ⟨rfl,h3⟩⟩ | ⟨rfl,rfl,h⟩)
    · exact ⟨j,h1,h2,.inl h3⟩
    · rw [hc] at h1
      injection h1 with h1
      subst h1
      exact ⟨j,hc,h2,.inr ⟨rfl,by rw [cw he]; exact List.mem_append_left _ h3⟩⟩
    · exact ⟨i,hc,h,.inr ⟨rfl,by rw [cw he]; simp⟩⟩
theorem yO.next {T:List ae} {i:Nat} {c:ae} (hc:T[i]? = some c) {x r:ae}:yO succ filt T i (succ c).length x r↔yO succ filt T (i + 1) 0 x r:=by
  constructor
  · rintro ⟨j,h1,h2,h3 | ⟨rfl,h3⟩⟩
    · exact ⟨j,h1,h2,.inl ⟨by omega,h3.2⟩⟩
    · rw [hc] at h1
      injection h1 with h1
      subst h1
      rw [List.take_length] at h3
      exact ⟨j,hc,h2,.inl ⟨by omega,h3⟩⟩
  · rintro ⟨j,h1,h2,h3 | ⟨rfl,h3⟩⟩
    · by_cases hj:j=i
      · subst hj
        rw [hc] at h1
        injection h1 with h1
        subst h1
        exact ⟨j,hc,h2,.inr ⟨rfl,by rw [List.take_length]; exact h3.2⟩⟩
      · exact ⟨j,h1,h2,.inl ⟨by omega,h3.2⟩⟩
    · simp at h3
structure WL (succ:ae→List ae) (filt:ae→Bool) (Rch:ae→Prop) (pre:List ae) (seen:List (ae×Bool)) (M:List ae) (i g:Nat):Prop where
  nd:M.Nodup
  see:∀ x,(bH aA x seen).getD false=decide (x ∈ M)
  rch:∀ x ∈ M,Rch x
  con:∀ x r,yO succ filt (pre ++ M) i g x r→r ∈ M
variable {Rch:ae→Prop} {pre:List ae} {seen:List (ae×Bool)} {M:List ae} {i g:Nat} {c e:ae}
theorem WL.skip (h:WL succ filt Rch pre seen M i g) (hc:(pre ++ M)[i]? = some c) (he:(succ c)[g]? = some e) (hf:filt e=false):WL succ filt Rch pre seen M i (g + 1) :=
  ⟨h.nd,h.see,h.rch,fun x r hx=>by
    rcases (yO.step hc he).1 hx with h1 | ⟨_,_,h1⟩
    · exact h.con x r h1
    · rw [hf] at h1; cases h1⟩
theorem WL.old (h:WL succ filt Rch pre seen M i g) (hc:(pre ++ M)[i]? = some c) (he:(succ c)[g]? = some e) (hm:e ∈ M):WL succ filt Rch pre seen M i (g + 1) :=
  ⟨h.nd,h.see,h.rch,fun x r hx=>by
    rcases (yO.step hc he).1 hx with h1 | ⟨_,rfl,_⟩
    · exact h.con x r h1
    · exact hm⟩
theorem WL.new (h:WL succ filt Rch pre seen M i g) (hc:(pre ++ M)[i]? = some c) (he:(succ c)[g]? = some e) (hm:e ∉ M) (hr:Rch e):WL succ filt Rch pre (cX aA e true seen) (M ++ [e]) i (g + 1) :=
  ⟨List.nodup_append.2 ⟨h.nd,by simp,fun a ha b hb e2=>by rw [List.mem_singleton] at hb; subst hb e2; exact hm ha⟩,B8 h.see e,fun x hx=>by
    rcases List.mem_append.1 hx with hx | hx
    · exact h.rch x hx
    · rw [List.mem_singleton] at hx; subst hx; exact hr,fun x r hx=>by
    have hi:i < (pre ++ M).length:=(List.getElem?_eq_some_iff.1 hc).1
    rw [← List.append_assoc,yO.grow hi] at hx
    rcases (yO.step hc he).1 hx with h1 | ⟨_,rfl,_⟩
    · exact List.mem_append_left _ (h.con x r h1)
    · simp⟩
theorem WL.next (h:WL succ filt Rch pre seen M i g) (hc:(pre ++ M)[i]? = some c) (hg:g=(succ c).length):WL succ filt Rch pre seen M (i + 1) 0 :=
  ⟨h.nd,h.see,h.rch,fun x r hx=>h.con x r (by subst hg; exact (yO.next hc).2 hx)⟩
theorem WL.fin (h:WL succ filt Rch pre seen M i g) (hi:(pre ++ M).length≤i) {x r:ae} (hx:x ∈ pre ++ M) (hr:r ∈ succ x) (hf:filt r=true):r ∈ M:=by
  obtain ⟨j,hj⟩:=List.mem_iff_getElem?.1 hx
  exact h.con x r ⟨j,hj,hf,.inl ⟨by have:=(List.getElem?_eq_some_iff.1 hj).1; omega,hr⟩⟩
end
section
variable {rd:ae→List ae} {op:ae→Bool} {k:ae}
def Eg (rd:ae→List ae) (op:ae→Bool) (x y:ae):Prop:=op x=true∧y ∈ rd x∧op y=true
theorem DJ (hk:op k=true) {x:ae} (h:ki (Eg rd op) k x):op x=true:=by
  cases h with
  | refl=>exact hk
  | snoc _ e=>exact e.2.2
end
def od (k:ae):Bool:=decide (k.Kind=32) || (decide (k.Kind=7) || decide (k.Kind=14) || decide (k.Kind=17) || decide (k.Kind=18))
theorem fF (k:ae):bZ k=some (od k):=by
  unfold bZ nT od e9 e7
  have hb:∀ n:Int,((k.Kind:Int) == n)=decide (k.Kind=n):=fun n=>by rw [Bool.eq_iff_iff]; simp
  rw [hb,hb,hb,hb,hb]
  by_cases h32:k.Kind=32
  · simp [h32]
  · by_cases h7:k.Kind=7
    · simp [h7]
    · by_cases h14:k.Kind=14
      · simp [h14]
      · by_cases h17:k.Kind=17
        · simp [h17]
        · by_cases h18:k.Kind=18
          · simp [h18]
          · simp only [h32,h7,h14,h17,h18,decide_false,Bool.or_false,cond_false]
            cases decide ((1:Int)≤k.Kind) <;> cases decide ((k.Kind:Int)≤22) <;> rfl
def BX (r:al) (rev:Int):Bool:=od r.Key && decide (r.Verified < rev) && !r.Dirty
theorem BY (r:al) (rev:Int):BX r rev=(od r.Key && decide (r.Verified < rev) && !r.Dirty):=rfl
noncomputable def xG (l:List al) (rev:Int) (k:ae):Bool:=(bX l k).2 && BX (bX l k).1 rev
def wA (l:List al) (k:ae):List ae:=(bX l k).1.Reads
theorem iQ {l:List al} {k:ae} (h:(bX l k).2=true):(bX l k).1 ∈ l∧(bX l k).1.Key=k:=by
  unfold bX at *
  cases hf:l.find? (fun r=>dh r.Key k) with
  | none=>rw [hf] at h; cases h
  | some r =>
    have h2:=List.find?_some hf
    exact ⟨List.mem_of_find?_eq_some hf,fK.1 h2⟩
theorem qS {l:List al} {k:ae} (h:(bX l k).2=false):bX l k=(IP,false)∧∀ r ∈ l,r.Key ≠ k:=by
  unfold bX at *
  cases hf:l.find? (fun r=>dh r.Key k) with
  | none =>
    refine ⟨rfl,fun r hr e=>?_⟩
    have:=List.find?_eq_none.1 hf r hr
    exact this (fK.2 e)
  | some r=>rw [hf] at h; cases h
theorem xk {l:List al} {rev:Int} {k:ae} (h:xG l rev k=true):k ∈ l.map al.Key:=by
  unfold xG at h
  simp only [Bool.and_eq_true] at h
  obtain ⟨h1,h2⟩:=iQ h.1
  exact List.mem_map.2 ⟨_,h1,h2⟩
theorem r4 {l:List al} (hl:CH l) (rev:Int) (k:ae):mN l rev k=some (xG l rev k):=by
  unfold mN gJ
  rw [pZ hl,Option.bind_some]
  cases hf:(bX l k).2 with
  | false=>simp [xG,hf]
  | true =>
    have hk:=(iQ hf).2
    unfold xG
    rw [hf,BY,hk,cond_true,fF,Option.bind_some]
    cases od k <;> cases decide (((bX l k).1.Verified:Int) < rev) <;> rfl
structure Aj (l:List al):Prop where
  asc:zw l
  len:l.length≤1000
  rds:∀ r ∈ l,r.Reads.length≤1000
theorem Aj.rm {l:List al} (h:Aj l):CH l:=⟨by have:=h.len; unfold Rm; omega,fun r hr=>by have:=h.rds r hr; unfold Rm; omega⟩
theorem Aj.rd {l:List al} (h:Aj l) (k:ae):(wA l k).length≤1000:=by
  unfold wA
  cases hf:(bX l k).2 with
  | true=>exact h.rds _ (iQ hf).1
  | false=>rw [(qS hf).1]; exact Nat.zero_le _
noncomputable abbrev Ek (l:List al) (rev:Int):=Eg (wA l) (xG l rev)
def HY (l:List al) (rev:Int) (k:ae) (m:List ae):Prop:=A7 m∧∀ x,x ∈ m↔ki (Ek l rev) k x∧ki (Ek l rev) x k
section
variable {l:List al} (hl:Aj l) {rev:Int} {k:ae} (hk:xG l rev k=true)
theorem qL (hk:xG l rev k=true) {x:ae} (h:ki (Ek l rev) k x):xG l rev x=true:=DJ hk h
abbrev B1 (l:List al) (rev:Int) (k:ae) (seen:List (ae×Bool)) (M:List ae) (i g:Nat):Prop:=WL (wA l) (xG l rev) (yP (Ek l rev) k) [k] seen M i g
theorem B1.len {seen:List (ae×Bool)} {M:List ae} {i g:Nat} (h:B1 l rev k seen M i g):M.length≤l.length:=by
  have:=mH (m:=l.map al.Key) h.nd fun x hx=>by
    obtain ⟨y,_,e⟩:=h.rch x hx
    exact xk e.2.2
  rwa [List.length_map] at this
include hl hk in
theorem BM {seen:List (ae×Bool)} {M:List ae} {i:Nat} {c:ae} (hc:([k] ++ M)[i]? = some c) (h:B1 l rev k seen M i 0) :
    Ok (loop (fun s:(List (ae×Bool))×(List ae)×Int=>eU l rev (bX l c) s.1 s.2.1 s.2.2) (seen,[k] ++ M,0)) fun r=>∃ M',r.2=[k] ++ M'∧B1 l rev k r.1 M' (i + 1) 0∧i < ([k] ++ M').length:=by
  have hcs:ki (Ek l rev) k c:=by
    cases i with
    | zero=>simp at hc; subst hc; exact .refl
    | succ i =>
      rw [List.getElem?_append_right (by simp)] at hc
      exact (h.rch c (List.mem_of_getElem? hc)).star
  have hcop:=qL hk hcs
  have hrl:=hl.rd c
  have hll:=hl.len
  refine mF (B:=fun s:(List (ae×Bool))×(List ae)×Int=>eU l rev (bX l c) s.1 s.2.1 s.2.2)
    (fun g s=>s.2.2=(g:Int)∧∃ M',s.2.1=[k] ++ M'∧B1 l rev k s.1 M' i g∧([k] ++ M')[i]? = some c) _ (wA l c).length ?_ ?_ ⟨rfl,M,rfl,h,hc⟩
  · rintro g ⟨sn,L,gi⟩ hg ⟨rfl,M',rfl,hA,hLc⟩
    dsimp only at hA hLc ⊢
    have hge:(wA l c)[g]? = some (wA l c)[g]:=List.getElem?_eq_getElem hg
    have hlen:=B1.len hA
    have hLi:i < ([k] ++ M').length:=(List.getElem?_eq_some_iff.1 hLc).1
    refine .inl ?_
    have hgu:(bX l c).1.Reads=wA l c:=rfl
    unfold eU
    rw [hgu,dlt hg,cond_true,bk,hge,Option.bind_some]
    generalize (wA l c)[g]=e at hge
    rw [r4 hl.rm,Option.bind_some]
    unfold jG jF
    rw [cT (by omega)]
    cases hf:xG l rev e with
    | false=>exact ⟨_,rfl,rfl,M',rfl,hA.skip hLc hge hf,hLc⟩
    | true =>
      have hEg:Ek l rev c e:=⟨hcop,List.mem_of_getElem? hge,hf⟩
      rw [cond_true,hA.see e,Option.bind_some]
      by_cases hm:e ∈ M'
      · rw [decide_eq_true hm]
        exact ⟨_,rfl,rfl,M',rfl,hA.old hLc hge hm,hLc⟩
      · rw [decide_eq_false hm]
        simp only [Bool.not_false,cond_true]
        rw [gd,eH (by simp only [List.length_singleton,List.length_append]; omega),cond_true]
        refine ⟨_,rfl,rfl,M' ++ [e],by simp,hA.new hLc hge hm ⟨c,hcs,hEg⟩,?_⟩
        rw [← List.append_assoc,List.getElem?_append_left hLi]; exact hLc
  · rintro ⟨sn,L,gi⟩ ⟨rfl,M',rfl,hA,hLc⟩
    dsimp only at hA hLc ⊢
    have hend:eU l rev (bX l c) sn ([k] ++ M') ((wA l c).length:Int)=some (.out (sn,[k] ++ M')):=by
      unfold eU
      rw [show (bX l c).1.Reads=wA l c from rfl,bQ]; rfl
    exact ⟨_,hend,M',rfl,hA.next hLc rfl,(List.getElem?_eq_some_iff.1 hLc).1⟩
include hl hk in
theorem yc:Ok (lH l rev k) fun m=>∀ x,(bH aA x m).getD false=true↔yP (Ek l rev) k x:=by
  have hll:=hl.len
  have h0:B1 l rev k [] [] 0 0:=⟨List.nodup_nil,fun x=>by simp [bH],fun x hx=>by simp at hx,fun x r h=>by
    obtain ⟨j,h1,h2,h3 | ⟨_,h3⟩⟩:=h
    · omega
    · simp at h3⟩
  have fin:∀ {sn M i},B1 l rev k sn M i 0→([k] ++ M).length≤i→∀ x,(bH aA x sn).getD false=true↔yP (Ek l rev) k x:=by
    intro sn M i hA hL x
    rw [hA.see,decide_eq_true_iff]
    refine ⟨hA.rch x,?_⟩
    rintro ⟨y,hy,e⟩
    have hall:∀ z,ki (Ek l rev) k z→z ∈ [k] ++ M:=fun z hz=>by
      induction hz with
      | refl=>simp
      | snoc _ e ih=>exact List.mem_append_right _ (hA.fin hL ih e.2.1 e.2.2)
    exact hA.fin hL (hall y hy) e.2.1 e.2.2
  unfold lH me
  refine Ok.bind (Q:=fun m=>∀ x,(bH aA x m).getD false=true↔yP (Ek l rev) k x) ?_ fun m hm=>Ok.ret hm
  refine mF (B:=fun s:(List (ae×Bool))×(List ae)×Int=>fU l rev s.1 s.2.1 s.2.2)
    (fun i s=>s.2.2=(i:Int)∧∃ M,s.2.1=[k] ++ M∧B1 l rev k s.1 M i 0∧i≤([k] ++ M).length) _ (l.length + 1) ?_ ?_ ⟨rfl,[],rfl,h0,Nat.zero_le _⟩
  · rintro i ⟨sn,L,ii⟩ hi ⟨rfl,M,rfl,hA,hiL⟩
    dsimp only at hA hiL ⊢
    by_cases hlt:i < ([k] ++ M).length
    · refine .inl ?_
      have hc:([k] ++ M)[i]? = some ([k] ++ M)[i]:=List.getElem?_eq_getElem hlt
      obtain ⟨⟨s2,L2⟩,e2,M',rfl,h2,h3⟩:=BM hl hk hc hA
      refine ⟨(s2,[k] ++ M',((i + 1:Nat):Int)),?_,rfl,M',rfl,h2,h3⟩
      unfold fU jE
      rw [dlt hlt,cond_true,bk,hc,Option.bind_some,pZ hl.rm,Option.bind_some,e2,Option.bind_some,cT (by omega)]
    · refine .inr ⟨sn,?_,fin hA (by omega)⟩
      unfold fU
      rw [Ax hlt]; rfl
  · rintro ⟨sn,L,ii⟩ ⟨rfl,M,rfl,hA,hiL⟩
    dsimp only at hA hiL ⊢
    have hlen:=B1.len hA
    have hlen2:([k] ++ M).length≤l.length + 1:=by rw [List.length_append,List.length_singleton]; omega
    refine ⟨sn,?_,fin hA hlen2⟩
    unfold fU
    rw [Ax (by omega)]; rfl
include hl hk in
theorem Cb:Ok (kK l rev k) (HY l rev k):=by
  have hll:=hl.len
  unfold kK
  rw [r4 hl.rm,Option.bind_some,hk]
  simp only [Bool.not_true,cond_false]
  refine Ok.bind (yc hl hk) fun tm htm=>?_
  unfold oT
  refine Ok.bind (Q:=fun out=>out.length≤1001∧∀ x,x ∈ out↔ki (Ek l rev) k x∧ki (Ek l rev) x k) ?_ fun out ⟨h1,h2⟩=>?_
  · refine mF (B:=fun s:(List ae)×Int=>lG l rev k tm s.1 s.2)
      (fun i s=>s.2=(i:Int)∧s.1.length≤i + 1∧∀ x,x ∈ s.1↔x=k∨(∃ r ∈ l.take i,r.Key=x)∧ki (Ek l rev) k x∧ki (Ek l rev) x k) _ l.length ?_ ?_ ⟨rfl,by simp,fun x=>by simp⟩
    · rintro i ⟨out,ii⟩ hi ⟨rfl,hlen,hm⟩
      dsimp only at hlen hm ⊢
      refine .inl ?_
      have hr:l[i]? = some l[i]:=List.getElem?_eq_getElem hi
      generalize l[i]=r at hr
      have hkeep:¬ (r.Key ≠ k∧ki (Ek l rev) k r.Key∧ki (Ek l rev) r.Key k)→∀ x,x ∈ out↔x=k∨(∃ r ∈ l.take (i + 1),r.Key=x)∧ki (Ek l rev) k x∧ki (Ek l rev) x k:=fun hn x=>by
        rw [hm,cw hr]
        constructor
        · rintro (h | ⟨⟨r',h1,h2⟩,h3⟩)
          · exact .inl h
          · exact .inr ⟨⟨r',List.mem_append_left _ h1,h2⟩,h3⟩
        · rintro (h | ⟨⟨r',h1,h2⟩,h3⟩)
          · exact .inl h
          · rcases List.mem_append.1 h1 with h1 | h1
            · exact .inr ⟨⟨r',h1,h2⟩,h3⟩
            · rw [List.mem_singleton] at h1
              subst h1 h2
              by_cases hx:r'.Key=k
              · exact .inl hx
              · exact absurd ⟨hx,h3⟩ hn
      have hadd:ki (Ek l rev) k r.Key→ki (Ek l rev) r.Key k→∀ x,x ∈ out ++ [r.Key]↔x=k∨(∃ r ∈ l.take (i + 1),r.Key=x)∧ki (Ek l rev) k x∧ki (Ek l rev) x k:=fun ha hb x=>by
        rw [List.mem_append,hm,cw hr,List.mem_singleton]
        constructor
        · rintro ((h | ⟨⟨r',h1,h2⟩,h3⟩) | rfl)
          · exact .inl h
          · exact .inr ⟨⟨r',List.mem_append_left _ h1,h2⟩,h3⟩
          · exact .inr ⟨⟨r,by simp,rfl⟩,ha,hb⟩
        · rintro (h | ⟨⟨r',h1,h2⟩,h3⟩)
          · exact .inl (.inl h)
          · rcases List.mem_append.1 h1 with h1 | h1
            · exact .inl (.inr ⟨⟨r',h1,h2⟩,h3⟩)
            · rw [List.mem_singleton] at h1
              subst h1 h2; exact .inr rfl
      unfold lG lF nz
      rw [dlt hi,cond_true,bk,hr,Option.bind_some,cT (by omega)]
      show ∃ s',cond (!(dh r.Key k)) _ _=_∧_
      by_cases hx:r.Key=k
      · rw [fK.2 hx]
        exact ⟨_,rfl,rfl,by dsimp only; omega,hkeep fun h=>h.1 hx⟩
      · rw [qV.2 hx]
        simp only [Bool.not_false,cond_true,Option.bind_some]
        cases ht:(bH aA r.Key tm).getD false with
        | false =>
          refine ⟨_,rfl,rfl,by dsimp only; omega,hkeep fun h=>?_⟩
          have:=(htm r.Key).2 (h.2.1.plus (fun e=>hx e.symm))
          rw [ht] at this; cases this
        | true =>
          have hp:=(htm r.Key).1 ht
          obtain ⟨m2,e2,h2⟩:=yc hl (qL hk hp.star)
          rw [cond_true,e2,Option.bind_some]
          cases ht2:(bH aA k m2).getD false with
          | false =>
            refine ⟨_,rfl,rfl,by dsimp only; omega,hkeep fun h=>?_⟩
            have:=(h2 k).2 (h.2.2.plus hx)
            rw [ht2] at this; cases this
          | true =>
            have hp2:=(h2 k).1 ht2
            rw [cond_true,gd,eH (by simp only [List.length_singleton]; omega),cond_true]
            exact ⟨_,rfl,rfl,by simp only [List.length_append,List.length_singleton]; omega,hadd hp.star hp2.star⟩
    · rintro ⟨out,ii⟩ ⟨rfl,hlen,hm⟩
      dsimp only at hlen hm ⊢
      refine ⟨out,by unfold lG; rw [bQ]; rfl,by omega,fun x=>(hm x).trans ?_⟩
      rw [List.take_length]
      constructor
      · rintro (rfl | ⟨_,h⟩)
        · exact ⟨.refl,.refl⟩
        · exact h
      · intro h
        by_cases hx:x=k
        · exact .inl hx
        · obtain ⟨r,hr,e⟩:=List.mem_map.1 (xk (qL hk h.1))
          exact .inr ⟨⟨r,hr,e⟩,h⟩
  · obtain ⟨m,e,hm⟩:=rK (l:=out) (by unfold Rm; omega)
    rw [e]
    exact Ok.ret ⟨hm.asc,fun x=>(hm.mem x).trans (h2 x)⟩
end
theorem HY.len {l:List al} (hl:Aj l) {rev:Int} {k:ae} (hk:xG l rev k=true) {m:List ae} (h:HY l rev k m):m.length≤1000:=by
  have hn:m.Nodup:=List.Pairwise.imp (fun {a b} h=>oO h) h.1
  have:=mH (m:=l.map al.Key) hn fun x hx=>xk (qL hk ((h.2 x).1 hx).1)
  rw [List.length_map] at this
  exact Nat.le_trans this hl.len
def Bh (l:List al) (g:List ae) (m:ae):List cy:=((wA l m).filter fun x=>!(g.any fun y=>dh x y)).map fun x=>⟨m,x⟩
def eW (l:List al) (g h:List ae):List cy:=h.flatMap (Bh l g)
theorem Bi {l:List al} (hl:Aj l) (g:List ae) (m:ae):(Bh l g m).length≤1000:=by
  unfold Bh
  rw [List.length_map]
  exact Nat.le_trans (List.length_filter_le _ _) (hl.rd m)
theorem oL {l:List al} (hl:Aj l) (g:List ae):∀ h:List ae,(eW l g h).length≤h.length * 1000
  | []=>Nat.zero_le _
  | m :: h=>by
    have:=oL hl g h
    have:=Bi hl g m
    unfold eW at *
    rw [List.flatMap_cons,List.length_append,List.length_cons]; omega
theorem wc {l:List al} (hl:Aj l) {g:List ae} (hg:g.length≤2000):gA l g=some (eW l g g):=by
  unfold gA kY
  refine ee (dZ (xs:=g) (fun k=>(eW l g (g.take k),(k:Int))) rfl (r:=eW l g g) (fun k m hm=>?_) ?_) rfl
  · have hk:=bh hm
    have hc:=oL hl g (g.take k)
    have hct:(g.take k).length≤2000:=by rw [List.length_take]; omega
    unfold iN kZ
    dsimp only
    rw [lg hm,cond_true,bk,hm,Option.bind_some,pZ hl.rm,Option.bind_some,cT (by omega)]
    have hin:loop (fun s:List cy×Int=>gm g m (bX l m) s.1 s.2) (eW l g (g.take k),0)=some (eW l g (g.take k) ++ Bh l g m):=by
      have hrl:=hl.rd m
      refine dZ (xs:=wA l m) (fun i=>(eW l g (g.take k) ++ (((wA l m).take i).filter fun x=>!(g.any fun y=>dh x y)).map (fun x=>(⟨m,x⟩:cy)),(i:Int))) (by simp) (fun i x hx=>?_) ?_
      · have hi:=bh hx
        unfold gm iM
        dsimp only
        rw [show (bX l m).1.Reads=wA l m from rfl,lg hx,cond_true,bk,hx,Option.bind_some,pB (by unfold Rm; omega),Option.bind_some,cT (by omega),cw hx,List.filter_append,List.map_append]
        have hpl:((((wA l m).take i).filter fun x=>!(g.any fun y=>dh x y)).map (fun x=>(⟨m,x⟩:cy))).length≤1000:=by
          rw [List.length_map]
          exact Nat.le_trans (nL _ _ _) hrl
        cases hh:g.any fun y=>dh x y with
        | true=>simp [hh]
        | false =>
          simp only [Bool.not_false,cond_true]
          rw [gd,eH (by simp only [List.length_append,List.length_singleton]; omega),cond_true]
          simp [hh]
      · unfold gm
        dsimp only
        rw [show (bX l m).1.Reads=wA l m from rfl,bQ,List.take_length]; rfl
    rw [hin,Option.bind_some,cw hm]
    unfold eW
    rw [List.flatMap_append,List.flatMap_singleton]
  · unfold iN
    dsimp only
    rw [bQ,List.take_length]; rfl
end
section
open Go.RowKit
open Go.Lib hiding intOf
noncomputable def rk (l:List aL) (n:Nat):ae:=⟨if (be l)[n]? = some true then 32 else 31,cz n⟩
section
variable {l:List aL} {n a b:Nat}
theorem wq (ha:a < 65536) (hb:b < 65536) (h:cz (a:Int)=cz b):a=b:=by
  have h1:=sV ha
  rw [h,sV hb] at h1
  omega
theorem vj (ha:a < 100) (hb:b < 100) (h:rk l a=rk l b):a=b:=wq (by omega) (by omega) (congrArg ae.Text h)
theorem Ce (h:n < l.length):rk l n=z7 l[n] n:=by
  unfold rk z7
  rw [nF h]
  cases l[n].Ring <;> simp
theorem vl (h:n < l.length) (hl:l.length≤100):jo l n=some (rk l n):=by rw [Ce h]; exact AR h (by omega)
theorem nY:(rk l n).Kind=31∧(be l)[n]? ≠ some true∨(rk l n).Kind=32∧(be l)[n]? = some true:=by
  unfold rk
  by_cases h:(be l)[n]? = some true
  · exact .inr ⟨by simp [h],h⟩
  · exact .inl ⟨by simp [h],h⟩
theorem yi (h:n < 100):DA 99 (cz (n:Int)).toList=n:=by
  unfold DA
  rw [pK,nn,xR (by omega),if_pos (by omega)]
theorem vk (h:n < 100):za (rk l n)=n:=by
  unfold za
  rw [if_pos (by rcases nY (l:=l) (n:=n) with ⟨h,_⟩ | ⟨h,_⟩ <;> rw [h] <;> decide)]
  exact yi h
theorem Bf (h:n < 100):za (bn n)=n:=by
  unfold za
  rw [if_pos ⟨by show (30:Int)≤30; omega,by show (30:Int)≤32; omega⟩]
  exact yi h
theorem lQ (k:ae):ci k=some (decide (k.Kind=1) || (decide (k.Kind=2) || decide (k.Kind=30))):=by
  unfold ci hJ
  by_cases h1:k.Kind=1
  · simp [h1]
  · by_cases h2:k.Kind=2
    · simp [h2]
    · by_cases h3:k.Kind=30
      · simp [h3]
      · have hb:∀ n:Int,k.Kind ≠ n→(k.Kind == n)=false:=fun n h=>by simpa using h
        rw [hb 1 h1,hb 2 h2,hb 30 h3]
        simp [h1,h2,h3]
theorem sO:ci (rk l n)=some false:=by
  rw [lQ]
  rcases nY (l:=l) (n:=n) with ⟨h,_⟩ | ⟨h,_⟩ <;> rw [h] <;> rfl
theorem n9:ci (bn n)=some true:=by rw [lQ]; rfl
theorem zY:od (rk l n)=decide ((be l)[n]? = some true):=by
  unfold od
  rcases nY (l:=l) (n:=n) with ⟨h,k⟩ | ⟨h,k⟩
  · rw [h,decide_eq_false k]; rfl
  · rw [h,decide_eq_true k]; rfl
theorem Aq:od (bn n)=false:=rfl
theorem zD:bn a ≠ rk l b:=fun h=>by
  have h30:(30:Int)=(rk l b).Kind:=congrArg ae.Kind h
  rcases nY (l:=l) (n:=b) with ⟨h,_⟩ | ⟨h,_⟩ <;> rw [h] at h30 <;> omega
theorem wJ {k:ae} (h:30≤k.Kind∧k.Kind≤32):d9 k=some (decide (0≤za k)):=by
  unfold d9 jq
  rw [decide_eq_true h.1,decide_eq_true h.2,cond_true,cond_true,oH]
  rfl
theorem yp (h:n < 100):d9 (rk l n)=some true:=by
  rw [wJ (by rcases nY (l:=l) (n:=n) with ⟨h,_⟩ | ⟨h,_⟩ <;> rw [h] <;> decide),vk h,decide_eq_true (by omega)]
theorem rN (h:n < 100):d9 (bn n)=some true:=by
  rw [wJ (k:=bn n) ⟨by show (30:Int)≤30; omega,by show (30:Int)≤32; omega⟩,Bf h,decide_eq_true (by omega)]
def mA (l:List aL) (k:ae):Prop:=(∃ c,c < 4∧k=bn c)∨∃ n,n < l.length∧k=rk l n
theorem mA.valid (hl:l.length≤8) {k:ae} (h:mA l k):d9 k=some true:=by
  rcases h with ⟨c,hc,rfl⟩ | ⟨n,hn,rfl⟩
  · exact rN (by omega)
  · exact yp (by omega)
theorem u0 (h:n < l.length):xF (be l) n≤l.length:=by
  unfold xF
  split
  · have:=(Bb (rs:=be l) (n:=n) (by unfold be; rwa [List.length_map])).2.2
    unfold be at this ⊢
    rwa [List.length_map] at this
  · omega
noncomputable def ph (x:cI) (ls:List ByteArray):Int:=if x.Pick=true∧(ls.length=0∨fH (ls.getD (ls.length - 1) ⟨#[]⟩) % 2=0) then x.Else else x.N
noncomputable def pg (l:List aL) (x:cI) (ls:List ByteArray):ae:=if x.Cell=true then bn (ph x ls).toNat else rk l (ph x ls).toNat
theorem nc (hR:bx l) {r:aL} (h:l[n]? = some r) {k:Nat} {x:cI} (hx:r.Asks[k]? = some x) (ls:List ByteArray) :
    0≤ph x ls∧((x.Cell=true∧∃ c,c < 4∧(ph x ls)=(c:Nat)∧pg l x ls=bn c)∨(x.Cell=false∧∃ j,j < xF (be l) n∧(ph x ls)=(j:Nat)∧pg l x ls=rk l j)):=by
  have hA:=(hR.each n r h).each k x hx
  have h0:0≤ph x ls:=by unfold ph; split; exact hA.low2; exact hA.low
  refine ⟨h0,?_⟩
  cases hc:x.Cell with
  | true =>
    have:ph x ls < 4:=by unfold ph; split; exact hA.cell2 hc; exact hA.cell hc
    exact .inl ⟨rfl,(ph x ls).toNat,by omega,by omega,by unfold pg; rw [if_pos hc]⟩
  | false =>
    have:ph x ls < xF (be l) n:=by unfold ph; split; exact hA.rule2 hc; exact hA.rule hc
    exact .inr ⟨rfl,(ph x ls).toNat,by omega,by omega,by unfold pg; rw [if_neg (by rw [hc]; simp)]⟩
theorem yw (hR:bx l) {r:aL} (h:l[n]? = some r) {ls:List ByteArray} (hn:r.Asks.length≤ls.length) :
    fL l (rk l n) ls=some ⟨true,cz (qr r (ls.take r.Asks.length)),⟨0,⟨#[]⟩⟩⟩:=by
  have hlt:=bh h
  have h8:=hR.high
  have h3:=(hR.each n r h).asks
  have hC:0≤r.C∧r.C≤65535:=by
    have hr:=hR.each n r h
    cases hg:r.Ring with
    | true=>have:=hr.ring hg; omega
    | false=>have:=hr.plain hg; omega
  obtain ⟨m,hm,hm2⟩:=rQ hR h (ls:=ls.take r.Asks.length) (by rw [List.length_take]; omega)
  unfold fL
  rw [oH,Option.bind_some,vk (by omega),decide_eq_false (by omega),cond_false,decide_eq_false (by omega),cond_false,vl hlt (by omega),Option.bind_some]
  rw [show (!((rk l n).Kind == (rk l n).Kind && (rk l n).Text.toList == (rk l n).Text.toList))=false by simp,cond_false,bk,h,Option.bind_some,decide_eq_true (by omega),cond_true]
  rw [rc (by omega),Option.bind_some,Bx hC (by rw [List.length_take]; omega),Option.bind_some,hm,pr (by omega),Option.bind_some]
theorem zn (hR:bx l) {r:aL} (h:l[n]? = some r) {ls:List ByteArray} {x:cI} (hx:r.Asks[ls.length]? = some x) :
    fL l (rk l n) ls=some ⟨false,⟨#[]⟩,pg l x ls⟩:=by
  have hlt:=bh h
  have hla:=bh hx
  have h8:=hR.high
  have h3:=(hR.each n r h).asks
  have hA:=(hR.each n r h).each _ x hx
  obtain ⟨g0,hg⟩:=nc hR h hx ls
  have hll:=u0 hlt
  have j1:∀ z:Int,z=ph x ls→iZ l x z=some ⟨false,⟨#[]⟩,pg l x ls⟩:=by
    rintro _ rfl
    unfold iZ
    rcases hg with ⟨hc,c,h4,e1,e2⟩ | ⟨hc,j,h4,e1,e2⟩
    · rw [hc,cond_true,e1,oy (by omega),Option.bind_some,e2]
    · rw [hc,cond_false,e1,vl (by omega) (by omega),Option.bind_some,e2]
  unfold fL
  rw [oH,Option.bind_some,vk (by omega),decide_eq_false (by omega),cond_false,decide_eq_false (by omega),cond_false,vl hlt (by omega),Option.bind_some]
  rw [show (!((rk l n).Kind == (rk l n).Kind && (rk l n).Text.toList == (rk l n).Text.toList))=false by simp,cond_false,bk,h,Option.bind_some,decide_eq_false (by omega),cond_false,bk,hx,Option.bind_some]
  unfold i1
  cases hp:x.Pick with
  | false=>exact j1 _ (by unfold ph; rw [if_neg (by rw [hp]; simp)])
  | true =>
    obtain ⟨_,hk⟩:=hA.pick hp
    rw [cond_true,show (((ls.length:Nat):Int) == 0)=false from beq_eq_false_iff_ne.2 (by omega),cond_false]
    have hw:IntKind.i64.wrap ((ls.length:Int) - 1)=((ls.length - 1:Nat):Int):=by rw [nJ (by omega) (by omega)]; omega
    have hg2:=List.getElem?_eq_getElem (l:=ls) (i:=ls.length - 1) (by omega)
    rw [hw,bk,hg2,Option.bind_some,yB,Option.bind_some]
    have hv:=gL ls[ls.length - 1]
    have hd:ls.getD (ls.length - 1) ⟨#[]⟩=ls[ls.length - 1]:=by rw [List.getD_eq_getElem?_getD,hg2]; rfl
    have ht:Int.tmod (fH ls[ls.length - 1]) 2=fH ls[ls.length - 1] % 2:=Int.tmod_eq_emod_of_nonneg (by omega)
    by_cases hz:fH ls[ls.length - 1] % 2=0
    · rw [ht,hz]
      exact j1 _ (by unfold ph; rw [if_pos ⟨hp,.inr (by rw [hd]; exact hz)⟩])
    · rw [ht,show (fH ls[ls.length - 1] % 2 == 0)=false by simpa using hz]
      exact j1 _ (by unfold ph; rw [if_neg (by rw [hd]; rintro ⟨_,h | h⟩; exact absurd h (by omega); exact hz h)])
theorem Cy (k:ae) (hk:k.Kind=31∨k.Kind=32) (ls:List ByteArray):dz l k ls=fL l k ls:=by
  unfold dz
  rcases hk with h | h
  · rw [h]; cases fL l k ls <;> rfl
  · rw [h]; cases fL l k ls <;> rfl
theorem yo:(rk l n).Kind=31∨(rk l n).Kind=32:=by rcases nY (l:=l) (n:=n) with ⟨h,_⟩ | ⟨h,_⟩; exact .inl h; exact .inr h
theorem tA (hR:bx l) {r:aL} (h:l[n]? = some r) {ls:List ByteArray} (hn:r.Asks.length≤ls.length) :
    dz l (rk l n) ls=some ⟨true,cz (qr r (ls.take r.Asks.length)),⟨0,⟨#[]⟩⟩⟩:=(Cy _ yo _).trans (yw hR h hn)
theorem vr (hR:bx l) {r:aL} (h:l[n]? = some r) {ls:List ByteArray} {x:cI} (hx:r.Asks[ls.length]? = some x) :
    dz l (rk l n) ls=some ⟨false,⟨#[]⟩,pg l x ls⟩:=(Cy _ yo _).trans (zn hR h hx)
end
end
section
open Go.RowKit
open Go.Lib hiding intOf
section
variable {rs:List Bool}
theorem zO:∀ {a j:Nat},ZZ rs a≤j→j < a→rs[j]? = some true
  | 0,_,_,h=>absurd h (by omega)
  | a + 1,j,h1,h2=>by
    rw [xf] at h1
    split at h1
    · rename_i h
      rcases Nat.lt_or_ge j a with h3 | h3
      · exact zO h1 h3
      · have:j=a:=by omega
        rw [this]; exact h
    · omega
theorem BN {a:Nat}:∀ {j:Nat},a≤j→(∀ i,a≤i→i < j→rs[i]? = some true)→ZZ rs j≤a
  | 0,h,_=>by have:=wu rs 0; omega
  | j + 1,h,hr=>by
    rcases Nat.lt_or_ge j a with h3 | h3
    · have:=wu rs (j + 1); omega
    · rw [xf,if_pos (hr j h3 (by omega))]
      exact BN h3 fun i h1 h2=>hr i h1 (by omega)
theorem xZ:∀ {f b j:Nat},b≤j→j < AD rs f b→rs[j]? = some true
  | 0,b,j,h1,h2=>by have:AD rs 0 b=b:=rfl; omega
  | f + 1,b,j,h1,h2=>by
    rw [x4] at h2
    split at h2
    · rename_i h
      rcases Nat.eq_or_lt_of_le h1 with h3 | h3
      · rw [← h3]; exact h
      · exact xZ h3 h2
    · omega
def qk (rs:List Bool) (n:Nat):Nat:=(blk rs n).1
theorem q9 {n:Nat} (h:rs[n]? ≠ some true):qk rs n=n:=by unfold qk blk; rw [if_neg h]
theorem sP {n:Nat} (h:rs[n]? = some true):qk rs n=ZZ rs n:=by unfold qk blk; rw [if_pos h]
theorem Cf (n:Nat):qk rs n≤n:=by
  by_cases h:rs[n]? = some true
  · rw [sP h]; exact wu rs n
  · rw [q9 h]; omega
theorem xL {n j:Nat} (h:rs[n]? = some true) (h1:ZZ rs n≤j) (h2:j < xF rs n):rs[j]? = some true:=by
  unfold xF at h2
  rw [if_pos h] at h2
  unfold blk at h2
  rw [if_pos h] at h2
  rcases Nat.lt_trichotomy j n with h3 | h3 | h3
  · exact zO h1 h3
  · rw [h3]; exact h
  · exact xZ h3 h2
theorem vi {n j:Nat} (h:rs[n]? = some true) (hj:j < xF rs n) (hp:rs[j]? ≠ some true):j < qk rs n:=by
  rw [sP h]
  rcases Nat.lt_or_ge j (ZZ rs n) with h3 | h3
  · exact h3
  · exact absurd (xL h h3 hj) hp
theorem wE {n j:Nat} (h:rs[n]? = some true) (hj:j < xF rs n) (hp:rs[j]? = some true):qk rs j≤qk rs n:=by
  rw [sP h,sP hp]
  rcases Nat.lt_or_ge j (ZZ rs n) with h3 | h3
  · have:=wu rs j; omega
  · exact BN h3 fun i h1 h2=>xL h h1 (by omega)
theorem wz {n j:Nat} (h:rs[n]? ≠ some true) (hj:j < xF rs n):qk rs j < qk rs n:=by
  unfold xF at hj
  rw [if_neg h] at hj
  rw [q9 h]
  have:=Cf (rs:=rs) j
  omega
end
def se (p:Nat→Bool):Nat→Nat
  | 0=>0
  | k + 1=>if p k then 2 ^ k + se p k else se p k
theorem ux (p:Nat→Bool):∀ k,se p k < 2 ^ k
  | 0=>by simp [se]
  | k + 1=>by
    have:=ux p k
    have h2:2 ^ (k + 1)=2 ^ k + 2 ^ k:=by rw [Nat.pow_succ]; omega
    unfold se
    split <;> omega
theorem uy (p:Nat→Bool):∀ k b,(se p k).testBit b=(decide (b < k) && p b)
  | 0,b=>by simp [se]
  | k + 1,b=>by
    have ih:=uy p k b
    have hlt:=ux p k
    unfold se
    rcases Nat.lt_trichotomy b k with h | h | h
    · rw [decide_eq_true (by omega),Bool.true_and]
      rw [decide_eq_true h,Bool.true_and] at ih
      split
      · rw [Nat.testBit_two_pow_add_gt h]; exact ih
      · exact ih
    · subst h
      rw [decide_eq_true (by omega),Bool.true_and]
      split
      · rename_i hp
        rw [Nat.testBit_two_pow_add_eq,Nat.testBit_lt_two_pow hlt,hp]; rfl
      · rename_i hp
        rw [Nat.testBit_lt_two_pow hlt]
        simpa using hp
    · rw [decide_eq_false (by omega),Bool.false_and]
      have h2:2 ^ (k + 1)=2 ^ k + 2 ^ k:=by rw [Nat.pow_succ]; omega
      have h3:2 ^ (k + 1)≤2 ^ b:=Nat.pow_le_pow_right (by omega) (by omega)
      split <;> exact Nat.testBit_lt_two_pow (by omega)
section
variable (l:List aL) (inp:ae→ByteArray)
noncomputable def pG (V:Nat→ByteArray) (x:cI) (ls:List ByteArray):ByteArray:=if x.Cell=true then inp (pg l x ls) else V (ph x ls).toNat
noncomputable def nQ (V:Nat→ByteArray) (r:aL):Nat→List ByteArray
  | 0=>[]
  | k + 1=>match r.Asks[k]? with
    | none=>nQ V r k
    | some x=>nQ V r k ++ [pG l inp V x (nQ V r k)]
inductive RB (V:Nat→ByteArray):Nat→Nat→Prop
  | own {n b:Nat} {r:aL}:l[n]? = some r→r.C.toNat.testBit b=true→RB V n b
  | ask {n b:Nat} {r:aL} {x:cI}:l[n]? = some r→x ∈ r.Asks→(x.Cell=true∨(be l)[x.N.toNat]? ≠ some true)→(fH (pG l inp V x [])).toNat.testBit b=true→RB V n b
  | ring {n b:Nat} {r:aL} {x:cI}:l[n]? = some r→x ∈ r.Asks→x.Cell=false→(be l)[x.N.toNat]? = some true→RB V x.N.toNat b→RB V n b
open Classical in
noncomputable def A1 (V:Nat→ByteArray) (n:Nat):ByteArray:=match l[n]? with
  | none=>⟨#[]⟩
  | some r=>if r.Ring=true then cz (se (fun b=>decide (RB l inp V n b)) 16:Nat) else cz (qr r (nQ l inp V r r.Asks.length))
noncomputable def Wd:Nat→Nat→ByteArray
  | 0=>fun _=>⟨#[]⟩
  | k + 1=>fun n=>if qk (be l) n < k then Wd k n else A1 l inp (Wd k) n
noncomputable def Vd (n:Nat):ByteArray:=Wd l inp (qk (be l) n + 1) n
theorem DZ:∀ {k n:Nat},qk (be l) n < k→Wd l inp k n=Vd l inp n
  | 0,n,h=>absurd h (by omega)
  | k + 1,n,h=>by
    rcases Nat.lt_or_ge (qk (be l) n) k with h1 | h1
    · show (if qk (be l) n < k then Wd l inp k n else _)=_
      rw [if_pos h1]
      exact DZ h1
    · obtain rfl:k=qk (be l) n:=by omega
      rfl
variable {l inp}
theorem zX (hR:bx l) {n:Nat} {r:aL} (h:l[n]? = some r) (hr:r.Ring=true) {k:Nat} {x:cI} (hx:r.Asks[k]? = some x) (ls:List ByteArray):ph x ls=x.N:=by
  have:=(hR.each n r h).each k x hx
  unfold ph
  rw [if_neg]
  rintro ⟨hp,_⟩
  have:=(this.pick hp).1
  rw [hr] at this; cases this
theorem lp {n:Nat} {r:aL} (h:l[n]? = some r):(be l)[n]? = some r.Ring:=by
  have:=bh h
  rw [nF this]
  rw [List.getElem?_eq_getElem this] at h
  rw [Option.some.inj h]
theorem um {V V':Nat→ByteArray} (hR:bx l) {n:Nat} {r:aL} (h:l[n]? = some r) (hr:r.Ring=false) (hV:∀ j,qk (be l) j < qk (be l) n→V j=V' j):∀ k,nQ l inp V r k=nQ l inp V' r k
  | 0=>rfl
  | k + 1=>by
    have ih:=um hR h hr hV k
    unfold nQ
    cases hx:r.Asks[k]? with
    | none=>exact ih
    | some x =>
      dsimp only
      rw [ih]
      congr 2
      unfold pG
      obtain ⟨_,⟨hc,_⟩ | ⟨hc,j,hj,e1,_⟩⟩:=nc hR h hx (nQ l inp V' r k)
      · rw [if_pos hc,if_pos hc]
      · rw [if_neg (by rw [hc]; simp),if_neg (by rw [hc]; simp),e1]
        exact hV _ (wz (by rw [lp h,hr]; simp) hj)
theorem xI {V V':Nat→ByteArray} (hR:bx l) {n0:Nat} (hV:∀ j,qk (be l) j < qk (be l) n0→V j=V' j) {n b:Nat} (h:RB l inp V n b):(be l)[n]? = some true→qk (be l) n≤qk (be l) n0→RB l inp V' n b:=by
  induction h with
  | own h1 h2=>exact fun _ _=>.own h1 h2
  | @ask n b r x h1 h2 h3 h4 =>
    intro hr hn
    obtain ⟨k,hk⟩:=List.mem_iff_getElem?.1 h2
    have hrr:r.Ring=true:=by rw [lp h1] at hr; exact Option.some.inj hr
    have e:=zX hR h1 hrr hk []
    refine .ask h1 h2 h3 ?_
    rw [← h4]
    congr 3
    unfold pG
    obtain ⟨_,⟨hc,_⟩ | ⟨hc,j,hj,e1,_⟩⟩:=nc hR h1 hk []
    · rw [if_pos hc,if_pos hc]
    · rw [if_neg (by rw [hc]; simp),if_neg (by rw [hc]; simp),e1]
      have e2:x.N.toNat=j:=by omega
      rw [hc,e2] at h3
      have hp:(be l)[j]? ≠ some true:=by rcases h3 with h3 | h3; cases h3; exact h3
      have:=vi hr hj hp
      exact (hV _ (by rw [show ((j:Nat):Int).toNat=j by omega,q9 hp]; omega)).symm
  | @ring n b r x h1 h2 h3 h4 h5 ih =>
    intro hr hn
    obtain ⟨k,hk⟩:=List.mem_iff_getElem?.1 h2
    have hrr:r.Ring=true:=by rw [lp h1] at hr; exact Option.some.inj hr
    have e:=zX hR h1 hrr hk []
    refine .ring h1 h2 h3 h4 (ih h4 ?_)
    obtain ⟨_,⟨hc,_⟩ | ⟨hc,j,hj,e1,_⟩⟩:=nc hR h1 hk []
    · rw [h3] at hc; cases hc
    · have e2:x.N.toNat=j:=by omega
      rw [e2] at h4 ⊢
      have:=wE hr hj h4
      omega
theorem zz (hR:bx l) {n:Nat} (hn:n < l.length):Vd l inp n=A1 l inp (Vd l inp) n:=by
  have hg:=List.getElem?_eq_getElem hn
  have e:Vd l inp n=A1 l inp (Wd l inp (qk (be l) n)) n:=by
    show (if qk (be l) n < qk (be l) n then _ else _)=_
    rw [if_neg (by omega)]
  rw [e]
  have hV:∀ j,qk (be l) j < qk (be l) n→Wd l inp (qk (be l) n) j=Vd l inp j:=fun j hj=>DZ l inp hj
  unfold A1
  rw [hg]
  dsimp only
  cases hr:l[n].Ring with
  | false=>rw [if_neg (by simp),if_neg (by simp),um hR hg hr hV]
  | true =>
    rw [if_pos rfl,if_pos rfl]
    have hr2:(be l)[n]? = some true:=by rw [lp hg,hr]
    have:∀ b,RB l inp (Wd l inp (qk (be l) n)) n b↔RB l inp (Vd l inp) n b:=fun b =>
      ⟨fun h=>xI hR hV h hr2 (Nat.le_refl _),fun h=>xI hR (fun j hj=>(hV j hj).symm) h hr2 (Nat.le_refl _)⟩
    congr 3
    funext b
    rw [decide_eq_decide]
    exact this b
end
structure zx (l:List aL) (inp:ae→ByteArray) (V:Nat→ByteArray):Prop where
  plain:∀ n r,l[n]? = some r→r.Ring=false→V n=cz (qr r (nQ l inp V r r.Asks.length))
  ring:∀ n r,l[n]? = some r→r.Ring=true→∃ u:Nat,V n=cz u∧u < 65536∧∀ b,u.testBit b=true↔RB l inp V n b
theorem vp {u b:Nat} (h:u < 65536) (ht:u.testBit b=true):b < 16:=by
  rcases Nat.lt_or_ge b 16 with h1 | h1
  · exact h1
  · have:2 ^ 16≤2 ^ b:=Nat.pow_le_pow_right (by omega) h1
    rw [Nat.testBit_lt_two_pow (by have:2 ^ 16=65536:=rfl; omega)] at ht
    cases ht
theorem Gu {l:List aL} {inp:ae→ByteArray} {V:Nat→ByteArray} (hR:bx l) {n b:Nat} (h:RB l inp V n b):b < 16:=by
  induction h with
  | own h1 h2 =>
    rename_i n b r
    have hr:=hR.each _ _ h1
    refine vp ?_ h2
    cases hg:r.Ring with
    | true=>have:=hr.ring hg; omega
    | false=>have:=hr.plain hg; omega
  | ask h1 h2 h3 h4 =>
    refine vp ?_ h4
    rename_i x
    have:=gL (pG l inp V x [])
    omega
  | ring _ _ _ _ _ ih=>exact ih
theorem Bs {l:List aL} (inp:ae→ByteArray) (hR:bx l):zx l inp (Vd l inp):=by
  refine ⟨fun n r h hr=>?_,fun n r h hr=>?_⟩
  · rw [zz hR (bh h)]
    unfold A1
    rw [h]
    dsimp only
    rw [if_neg (by rw [hr]; simp)]
  · classical
    rw [zz hR (bh h)]
    unfold A1
    rw [h]
    dsimp only
    rw [if_pos hr]
    refine ⟨_,rfl,ux _ 16,fun b=>?_⟩
    rw [uy,Bool.and_eq_true,decide_eq_true_eq,decide_eq_true_eq]
    exact ⟨fun h=>h.2,fun h=>⟨Gu hR h,h⟩⟩
end
section
open Go.RowKit
open Go.Lib hiding intOf
theorem BG {a b:ae} (h:a ≠ b):aA a b=false:=by rw [← Bool.not_eq_true]; exact fun e=>h ((jg a b).1 e)
theorem x9 (a:ae):aA a a=true:=(jg a a).2 rfl
theorem cQ {ν:Type} (k:ae) (v:ν) (m:List (ae×ν)):bH aA k (cX aA k v m)=some v:=by rw [sx jg,x9]; rfl
theorem d5 {ν:Type} {k k':ae} (h:k ≠ k') (v:ν) (m:List (ae×ν)):bH aA k (cX aA k' v m)=bH aA k m:=by rw [sx jg,BG h]; rfl
def cB (b:ah) (k:ae):aG:=match b.Inputs.find? (fun x=>dh x.Key k) with | some x=>x | none=>⟨k,⟨#[]⟩,0⟩
theorem wC {b:ah} (hb:Rm b.Inputs.length) (k:ae):mM b k=some (cB b k):=by
  unfold Rm at hb
  have key:loop (fun s:Int=>fv b k s) 0=some (match b.Inputs.find? (fun x=>dh x.Key k) with | some x=>Fl.out x | none=>Fl.go ()):=by
    rcases pP (xs:=b.Inputs) (B:=fun s:Int=>fv b k s) (fun x=>dh x.Key k) (fun i=>(i:Int)) (s0:=0) rfl (y:=fun _ x=>Fl.out x) (n:=Fl.go ()) (fun i x hx hp=>by
      unfold fv
      rw [lg hx,cond_true,bk,hx,Option.bind_some,cT (by have:=bh hx; omega)]
      show cond (dh x.Key k) _ _=_
      rw [hp]; rfl) (fun i x hx hp=>by
      unfold fv
      rw [lg hx,cond_true,bk,hx,Option.bind_some]
      show cond (dh x.Key k) _ _=_
      rw [hp]; rfl) (by unfold fv; rw [bQ]; rfl) with ⟨i,x,h1,h2,h3,h4⟩ | ⟨h1,h2⟩
    · rw [h4,zL (p:=fun x=>dh x.Key k) h1 h2 h3]
    · rw [h2,List.find?_eq_none.2 fun x hx=>by rw [h1 x hx]; simp]
  unfold mM
  rw [key]
  unfold cB
  cases b.Inputs.find? (fun x=>dh x.Key k) <;> rfl
theorem BA {b:ah} (hb:Rm b.Inputs.length) (k:ae):mL b k=some (cB b k).Value:=by
  unfold mL
  rw [wC hb]; rfl
theorem xa:cz ((0:Nat):Int)=⟨#[48]⟩:=by
  unfold cz
  rw [nn]
  unfold decDigits
  simp
def iD (m m':List (ae×ByteArray)):Prop:=∀ k v,bH aA k m=some v→bH aA k m'=some v
theorem iD.refl (m:List (ae×ByteArray)):iD m m:=fun _ _ h=>h
theorem iD.trans {a b c:List (ae×ByteArray)} (h:iD a b) (k:iD b c):iD a c:=fun x v e=>k x v (h x v e)
theorem iD.has {a b:List (ae×ByteArray)} (h:iD a b) {k:ae} (e:bH aA k a ≠ none):bH aA k b ≠ none:=by
  cases hk:bH aA k a with
  | none=>exact absurd hk e
  | some v=>rw [h k v hk]; simp
structure pc (l:List aL) (V:Nat→ByteArray) (b:ah) (s:aj):Prop where
  rules:s.Rules=l
  base:s.Base=b
  memo:∀ n,n < l.length→∀ v,bH aA (rk l n) s.Memo=some v→v=V n
  cell:∀ c,bH aA (bn c) s.Memo=none
section
variable {l:List aL} {V:Nat→ByteArray} {b:ah} {inp:ae→ByteArray}
theorem pc.put {s:aj} (h:pc l V b s) {n:Nat} (hn:n < l.length) (hl:l.length≤8):pc l V b ⟨s.Rules,s.Base,cX aA (rk l n) (V n) s.Memo,s.Seen⟩∧iD s.Memo (cX aA (rk l n) (V n) s.Memo):=by
  refine ⟨⟨h.rules,h.base,fun m hm v e=>?_,fun c=>?_⟩,fun k v e=>?_⟩
  · by_cases hk:m=n
    · subst hk
      rw [cQ] at e
      exact (Option.some.inj e).symm
    · rw [d5 (fun e=>hk (vj (by omega) (by omega) e))] at e
      exact h.memo m hm v e
  · rw [d5 zD]
    exact h.cell c
  · by_cases hk:k=rk l n
    · subst hk
      rw [cQ,h.memo n hn v e]
    · rw [d5 hk,e]
def A6 (l:List aL) (x:cI):Prop:=x.Cell=true∨(be l)[x.N.toNat]? ≠ some true
def rp (l:List aL) (V:Nat→ByteArray) (inp:ae→ByteArray) (memo0 memo:List (ae×ByteArray)) (idx:List Nat) (a:Nat→Nat) (x:cI) (v:ByteArray):Prop :=
  (A6 l x∧v=pG l inp V x [])∨(¬ A6 l x∧((bH aA (rk l x.N.toNat) memo ≠ none∧v=V x.N.toNat)∨(x.N.toNat ∈ idx∧v=cz (a x.N.toNat:Nat)∧bH aA (rk l x.N.toNat) memo0=none)))
theorem rp.mono {memo0 memo memo':List (ae×ByteArray)} {idx idx':List Nat} {a:Nat→Nat} {x:cI} {v:ByteArray} (h:rp l V inp memo0 memo idx a x v) (hg:iD memo memo') (hi:∀ i ∈ idx,i ∈ idx'):rp l V inp memo0 memo' idx' a x v:=by
  rcases h with h | ⟨h0,⟨h1,h2⟩ | ⟨h1,h2,h3⟩⟩
  · exact .inl h
  · exact .inr ⟨h0,.inl ⟨hg.has h1,h2⟩⟩
  · exact .inr ⟨h0,.inr ⟨hi _ h1,h2,h3⟩⟩
def Vw (l:List aL) (V:Nat→ByteArray) (inp:ae→ByteArray) (memo:List (ae×ByteArray)) (a:Nat→Nat) (x:cI) (q:Nat):Prop :=
  (A6 l x∧(fH (pG l inp V x [])).toNat.testBit q=true)∨(¬ A6 l x∧((bH aA (rk l x.N.toNat) memo ≠ none∧RB l inp V x.N.toNat q)∨(a x.N.toNat).testBit q=true))
def Fb (l:List aL) (V:Nat→ByteArray) (inp:ae→ByteArray) (memo:List (ae×ByteArray)) (a:Nat→Nat) (i q:Nat):Prop:=∃ r,l[i]? = some r∧(r.C.toNat.testBit q=true∨∃ x ∈ r.Asks,Vw l V inp memo a x q)
theorem Fb.mono {memo memo':List (ae×ByteArray)} {a a':Nat→Nat} {i q:Nat} (h:Fb l V inp memo a i q) (hg:iD memo memo') (ha:∀ j q,(a j).testBit q=true→(a' j).testBit q=true):Fb l V inp memo' a' i q:=by
  obtain ⟨r,h1,h2 | ⟨x,h2,h3⟩⟩:=h
  · exact ⟨r,h1,.inl h2⟩
  · refine ⟨r,h1,.inr ⟨x,h2,?_⟩⟩
    rcases h3 with h3 | ⟨h0,⟨h3,h4⟩ | h3⟩
    · exact .inl h3
    · exact .inr ⟨h0,.inl ⟨hg.has h3,h4⟩⟩
    · exact .inr ⟨h0,.inr (ha _ _ h3)⟩
structure tS (l:List aL) (V:Nat→ByteArray) (inp:ae→ByteArray) (n0:Nat) (memo:List (ae×ByteArray)) (m:List (ae×ByteArray)) (list:List ae) (idx:List Nat) (a:Nat→Nat):Prop where
  eq:list=idx.map (rk l)
  nd:idx.Nodup
  ring:∀ i ∈ idx,i < l.length∧(be l)[i]? = some true∧qk (be l) i≤qk (be l) n0
  head:n0 ∈ idx
  get:∀ i,i < l.length→bH aA (rk l i) m=if i ∈ idx then some (cz (a i:Nat)) else none
  zero:∀ i,i ∉ idx→a i=0
  lt:∀ i,a i < 65536
  le:∀ i q,(a i).testBit q=true→RB l inp V i q
  up:∀ i ∈ idx,∀ q,(a i).testBit q=true→Fb l V inp memo a i q
theorem BT {idx:List Nat} (hn:idx.Nodup) {N:Nat} (h:∀ i ∈ idx,i < N):idx.length≤N:=by
  have:=mH hn (m:=List.range N) fun x hx=>List.mem_range.2 (h x hx)
  rwa [List.length_range] at this
theorem tS.len {n0:Nat} {memo m:List (ae×ByteArray)} {list:List ae} {idx:List Nat} {a:Nat→Nat} (h:tS l V inp n0 memo m list idx a):list.length=idx.length∧idx.length≤l.length :=
  ⟨by rw [h.eq,List.length_map],BT h.nd fun i hi=>(h.ring i hi).1⟩
theorem tS.grow {n0:Nat} {memo memo' m:List (ae×ByteArray)} {list:List ae} {idx:List Nat} {a:Nat→Nat} (h:tS l V inp n0 memo m list idx a) (hg:iD memo memo'):tS l V inp n0 memo' m list idx a :=
  ⟨h.eq,h.nd,h.ring,h.head,h.get,h.zero,h.lt,h.le,fun i hi q hq=>(h.up i hi q hq).mono hg fun _ _ e=>e⟩
theorem tS.add {n0:Nat} {memo m:List (ae×ByteArray)} {list:List ae} {idx:List Nat} {a:Nat→Nat} (h:tS l V inp n0 memo m list idx a) (hl:l.length≤8) {j:Nat} (hj:j < l.length) (hr:(be l)[j]? = some true) (hk:qk (be l) j≤qk (be l) n0) (hn:j ∉ idx) :
    tS l V inp n0 memo (cX aA (rk l j) ⟨#[48]⟩ m) (list ++ [rk l j]) (idx ++ [j]) a:=by
  refine ⟨by rw [h.eq,List.map_append]; rfl,?_,?_,List.mem_append_left _ h.head,?_,fun i hi=>h.zero i fun e=>hi (List.mem_append_left _ e),h.lt,h.le,?_⟩
  · rw [List.nodup_append]
    exact ⟨h.nd,by simp,fun x hx y hy=>by rw [List.mem_singleton.1 hy]; exact fun e=>hn (e ▸ hx)⟩
  · intro i hi
    rcases List.mem_append.1 hi with hi | hi
    · exact h.ring i hi
    · rw [List.mem_singleton.1 hi]; exact ⟨hj,hr,hk⟩
  · intro i hi
    by_cases e:i=j
    · subst e
      rw [cQ,if_pos (List.mem_append_right _ (List.mem_singleton.2 rfl)),h.zero i hn,xa]
    · rw [d5 (fun e2=>e (vj (by omega) (by omega) e2)),h.get i hi]
      have:(i ∈ idx ++ [j])↔i ∈ idx:=by rw [List.mem_append,List.mem_singleton]; exact ⟨fun h=>h.resolve_right e,.inl⟩
      simp only [this]
  · intro i hi q hq
    rcases List.mem_append.1 hi with hi | hi
    · exact h.up i hi q hq
    · rw [List.mem_singleton.1 hi,h.zero j hn] at hq
      simp at hq
end
end
section
open Go.RowKit
open Go.Lib hiding intOf
theorem xX:∀ (xs:List Nat) (c q:Nat),(xs.foldl (· ||| ·) c).testBit q=true↔c.testBit q=true∨∃ x ∈ xs,x.testBit q=true
  | [],c,q=>by simp
  | x :: xs,c,q=>by
    rw [List.foldl_cons,xX xs (c ||| x) q,Nat.testBit_or,Bool.or_eq_true]
    simp only [List.mem_cons]
    constructor
    · rintro ((h | h) | ⟨y,h1,h2⟩)
      · exact .inl h
      · exact .inr ⟨x,.inl rfl,h⟩
      · exact .inr ⟨y,.inr h1,h2⟩
    · rintro (h | ⟨y,rfl | h1,h2⟩)
      · exact .inl (.inl h)
      · exact .inl (.inr h2)
      · exact .inr ⟨y,h1,h2⟩
section
variable {l:List aL} {V:Nat→ByteArray} {b:ah} {inp:ae→ByteArray}
theorem Bw (hR:bx l) {n:Nat} {r:aL} (h:l[n]? = some r) (hr:r.Ring=true) (ls:List ByteArray) :
    ∃ m:Nat,qr r ls=m∧m < 65536∧∀ q,m.testBit q=true↔r.C.toNat.testBit q=true∨∃ v ∈ ls,(fH v).toNat.testBit q=true:=by
  obtain ⟨h1,h2,h3⟩:=(hR.each n r h).ring hr
  obtain ⟨c,hc⟩:∃ c:Nat,r.C=c:=⟨r.C.toNat,by omega⟩
  have e:ls.map fH=(ls.map fun s=>(fH s).toNat).map fun x:Nat=>(x:Int):=by
    rw [List.map_map]
    refine List.map_congr_left fun s _=>?_
    have:=gL s
    simp only [Function.comp]
    omega
  have:=w4 (ls.map fun s=>(fH s).toNat) c (fun x hx=>by
    obtain ⟨s,_,rfl⟩:=List.mem_map.1 hx
    have:=gL s
    omega) (by omega)
  refine ⟨(ls.map fun s=>(fH s).toNat).foldl (· ||| ·) c,?_,this.2,fun q=>?_⟩
  · unfold qr
    dsimp only
    rw [if_neg (by omega),if_neg (by omega),if_neg (by omega),if_neg (by omega),e,hc]
    exact this.1
  · rw [xX,hc]
    rw [show ((c:Nat):Int).toNat=c from Int.toNat_natCast c]
    refine or_congr Iff.rfl ⟨fun ⟨x,hx,hq⟩=>?_,fun ⟨v,hv,hq⟩=>⟨_,List.mem_map.2 ⟨v,hv,rfl⟩,hq⟩⟩
    obtain ⟨v,hv,rfl⟩:=List.mem_map.1 hx
    exact ⟨v,hv,hq⟩
def Gr (l:List aL) (V:Nat→ByteArray) (b:ah) (inp:ae→ByteArray) (n0:Nat) (a:Nat→Nat) (i:Nat) (r:aL) (memo0:List (ae×ByteArray)) (idx0:List Nat) (ch0:Bool) (k:Nat) :
    (List (ae×ByteArray))×(List ae)×Bool×(List ByteArray)×(List aL)×Int×(List aG)×(List al)×(List (ae×ByteArray))×(List (ae×(List ae)))×Bool×ByteArray×Int×ByteArray→Prop
  | (m,list,ch,ws,rules,rev,inps,recs,memo,seen,d,v,ak,at_) =>
    ∃ (idx:List Nat),tS l V inp n0 memo m list idx a∧pc l V b (aj.mk rules (ah.mk rev inps recs) memo seen)∧iD memo0 memo∧idx0 <+: idx∧((ch=ch0∧idx=idx0)∨(ch=true∧idx0.length < idx.length)) ∧
      ws.length=k∧(∀ q x,q < k→r.Asks[q]? = some x→∃ v,ws[q]? = some v∧rp l V inp memo0 memo idx a x v)∧dz l (rk l i) ws=some ⟨d,v,⟨ak,at_⟩⟩
def A8 (l:List aL) (V:Nat→ByteArray) (b:ah) (inp:ae→ByteArray) (n0:Nat) (a:Nat→Nat) (i:Nat) (r:aL) (memo0:List (ae×ByteArray)) (idx0:List Nat) (ch0:Bool) :
    (List (ae×ByteArray))×(List ae)×Bool×(List aL)×Int×(List aG)×(List al)×(List (ae×ByteArray))×(List (ae×(List ae)))×Bool×ByteArray×Int×ByteArray→Prop
  | (m,list,ch,rules,rev,inps,recs,memo,seen,d,v,ak,at_) =>
    ∃ (idx:List Nat) (ws:List ByteArray),tS l V inp n0 memo m list idx a∧pc l V b (aj.mk rules (ah.mk rev inps recs) memo seen)∧iD memo0 memo∧idx0 <+: idx∧((ch=ch0∧idx=idx0)∨(ch=true∧idx0.length < idx.length)) ∧
      ws.length=r.Asks.length∧(∀ (q:Nat) (x:cI),r.Asks[q]? = some x→∃ (w:ByteArray),ws[q]? = some w∧rp l V inp memo0 memo idx a x w)∧v=cz (qr r ws)
section
variable {n0:Nat} {a:Nat→Nat} {i p:Nat} {r:aL} {memo0:List (ae×ByteArray)} {idx0:List Nat} {ch0:Bool} (hR:bx l) (hi:l[i]? = some r) (hr:r.Ring=true) (hp:idx0[p]? = some i)
include hR hi
theorem ri {ws:List ByteArray} (h:ws.length≤r.Asks.length):∃ t,dz l (rk l i) ws=some t∧((ws.length=r.Asks.length∧t=⟨true,cz (qr r ws),⟨0,⟨#[]⟩⟩⟩)∨∃ x,r.Asks[ws.length]? = some x∧t=⟨false,⟨#[]⟩,pg l x ws⟩):=by
  rcases Nat.lt_or_ge ws.length r.Asks.length with h1 | h1
  · exact ⟨_,vr hR hi (List.getElem?_eq_getElem h1),.inr ⟨_,List.getElem?_eq_getElem h1,rfl⟩⟩
  · exact ⟨_,tA hR hi h1,.inl ⟨by omega,by rw [List.take_of_length_le (by omega)]⟩⟩
include hp
theorem Hf {k:Nat} {m:List (ae×ByteArray)} {list:List ae} {ch:Bool} {ws:List ByteArray} {rules:List aL} {rev:Int} {inps:List aG} {recs:List al} {memo:List (ae×ByteArray)} {seen:List (ae×(List ae))} {idx:List Nat} {x:cI} {v:ByteArray}
    (h1:tS l V inp n0 memo m list idx a) (h2:pc l V b (aj.mk rules (ah.mk rev inps recs) memo seen)) (h3:iD memo0 memo) (h4:idx0 <+: idx) (h5:(ch=ch0∧idx=idx0)∨(ch=true∧idx0.length < idx.length))
    (h6:ws.length=k) (h7:∀ q x,q < k→r.Asks[q]? = some x→∃ v,ws[q]? = some v∧rp l V inp memo0 memo idx a x v) (hx:r.Asks[k]? = some x) (hv:rp l V inp memo0 memo idx a x v) :
    Ok (cj p ws m list ch v rules rev inps recs memo seen) fun y=>match y with
      | .go s'=>k < r.Asks.length∧Gr l V b inp n0 a i r memo0 idx0 ch0 (k + 1) s'
      | .out y=>A8 l V b inp n0 a i r memo0 idx0 ch0 y:=by
  have hk:=bh hx
  have h3l:=(hR.each i r hi).asks
  obtain ⟨t,ht,_⟩:=ri hR hi (ws:=ws ++ [v]) (by rw [List.length_append,h6]; simp; omega)
  have hlist:bm list (p:Int)=some (rk l i):=by
    obtain ⟨u,rfl⟩:=h4
    rw [bk,h1.eq,List.getElem?_map,List.getElem?_append_left (bh hp),hp]; rfl
  have hru:rules=l:=h2.rules
  unfold cj
  refine Ok.gd (eH (by simp; omega)) (Ok.eq hlist (Ok.eq (by rw [hru]; exact ht) (Ok.ret ⟨hk,idx,h1,h2,h3,h4,h5,by rw [List.length_append,h6]; rfl,fun q y hq hy=>?_,ht⟩)))
  rcases Nat.lt_or_ge q k with h | h
  · obtain ⟨w,hw1,hw2⟩:=h7 q y h hy
    exact ⟨w,by rw [List.getElem?_append_left (bh hw1)]; exact hw1,hw2⟩
  · obtain rfl:q=k:=by omega
    rw [hx] at hy
    obtain rfl:=Option.some.inj hy
    exact ⟨v,by rw [List.getElem?_append_right (by omega),h6]; simp,hv⟩
end
end
end
section
open Go.RowKit
open Go.Lib hiding intOf
structure EH (l:List aL) (V:Nat→ByteArray) (b:ah) (inp:ae→ByteArray) (ρ:Nat) (vrec:aj→ae→Option (ByteArray×aj)):Prop where
  rule:∀ s n,pc l V b s→n < l.length→qk (be l) n < ρ→Ok (vrec s (rk l n)) fun y=>y.1=V n∧pc l V b y.2∧iD s.Memo y.2.Memo
  cell:∀ s c,pc l V b s→c < 4→Ok (vrec s (bn c)) fun y=>y.1=inp (bn c)∧y.2=s
section
variable {l:List aL} {V:Nat→ByteArray} {b:ah} {inp:ae→ByteArray} {vrec:aj→ae→Option (ByteArray×aj)}
variable {n0:Nat} {a:Nat→Nat} {i p:Nat} {r:aL} {memo0:List (ae×ByteArray)} {idx0:List Nat} {ch0:Bool} (hR:bx l) (hv:EH l V b inp (qk (be l) n0) vrec) (hi:l[i]? = some r) (hr:r.Ring=true) (hp:idx0[p]? = some i)
include hR hv hi hr hp
theorem Hi {k:Nat} (hk:k≤r.Asks.length):∀ s,Gr l V b inp n0 a i r memo0 idx0 ch0 k s→Ok (dg vrec p s.1 s.2.1 s.2.2.1 s.2.2.2.1 s.2.2.2.2.1 s.2.2.2.2.2.1 s.2.2.2.2.2.2.1 s.2.2.2.2.2.2.2.1 s.2.2.2.2.2.2.2.2.1 s.2.2.2.2.2.2.2.2.2.1 s.2.2.2.2.2.2.2.2.2.2.1 s.2.2.2.2.2.2.2.2.2.2.2.1 s.2.2.2.2.2.2.2.2.2.2.2.2.1 s.2.2.2.2.2.2.2.2.2.2.2.2.2) fun y=>match y with
      | .go s'=>k < r.Asks.length∧Gr l V b inp n0 a i r memo0 idx0 ch0 (k + 1) s'
      | .out y=>A8 l V b inp n0 a i r memo0 idx0 ch0 y:=by
  rintro ⟨m,list,ch,ws,rules,rev,inps,recs,memo,seen,d,v,ak,at_⟩ ⟨idx,h1,h2,h3,h4,h5,h6,h7,h8⟩
  dsimp only
  have hl8:=hR.high
  obtain ⟨t,ht,hcase⟩:=ri hR hi (ws:=ws) (by omega)
  rw [h8] at ht
  obtain rfl:=Option.some.inj ht
  have hiI:i ∈ idx:=h4.subset (List.mem_of_getElem? hp)
  unfold dg
  rcases hcase with ⟨e1,e2⟩ | ⟨x,hx,e2⟩
  · injection e2 with ed ev ea
    subst ed
    simp only [Bool.not_true,cond_false]
    exact Ok.ret ⟨idx,ws,h1,h2,h3,h4,h5,e1,fun q x hx=>h7 q x (by have:=bh hx; omega) hx,ev⟩
  · injection e2 with ed ev ea
    subst ed
    rw [h6] at hx
    have n1:=zX hR hi hr hx ws
    have n2:=zX hR hi hr hx []
    obtain ⟨g0,hg⟩:=nc hR hi hx ws
    simp only [Bool.not_false,cond_true,Option.bind_some]
    rw [ea]
    have done:∀ {m list ch rules rev inps recs memo seen} {idx:List Nat} {w:ByteArray},tS l V inp n0 memo m list idx a→pc l V b (aj.mk rules (ah.mk rev inps recs) memo seen)→iD memo0 memo→idx0 <+: idx→((ch=ch0∧idx=idx0)∨(ch=true∧idx0.length < idx.length)) →
        (∀ q x,q < k→r.Asks[q]? = some x→∃ v,ws[q]? = some v∧rp l V inp memo0 memo idx a x v)→rp l V inp memo0 memo idx a x w→Ok (cj p ws m list ch w rules rev inps recs memo seen) fun y=>match y with
      | .go s'=>k < r.Asks.length∧Gr l V b inp n0 a i r memo0 idx0 ch0 (k + 1) s'
      | .out y=>A8 l V b inp n0 a i r memo0 idx0 ch0 y:=fun q1 q2 q3 q4 q5 q6 q7=>Hf hR hi hp q1 q2 q3 q4 q5 h6 q6 hx q7
    rcases hg with ⟨hc,c,hc4,e3,e4⟩ | ⟨hc,j,hj,e3,e4⟩
    · have hB:A6 l x:=.inl hc
      have hA:pG l inp V x []=inp (bn c):=by
        unfold pG pg
        rw [if_pos hc,if_pos hc,n2,← n1,e3]; rfl
      rw [e4,h2.cell c]
      simp only [Option.isSome_none,cond_false]
      refine Ok.eq (fF _) ?_
      rw [Aq]
      simp only [Bool.not_false,cond_true]
      refine Ok.bind (hv.cell _ c h2 hc4) fun y hy=>?_
      obtain ⟨y1,y2⟩:=y
      obtain ⟨f1,f2⟩:=hy
      simp only at f1 f2
      subst f1 f2
      exact done h1 h2 h3 h4 h5 h7 (.inl ⟨hB,hA.symm⟩)
    · have hll:=u0 (bh hi)
      have hjl:j < l.length:=by omega
      have hxj:x.N.toNat=j:=by omega
      have hri:(be l)[i]? = some true:=by rw [lp hi,hr]
      have hio:=h1.ring i hiI
      rw [e4]
      cases hm:bH aA (rk l j) memo with
      | some w =>
        have hw:=h2.memo j hjl w hm
        simp only [Option.isSome_some,cond_true,Option.getD_some]
        refine done h1 h2 h3 h4 h5 h7 ?_
        by_cases hB:A6 l x
        · refine .inl ⟨hB,?_⟩
          unfold pG
          rw [if_neg (by rw [hc]; simp),n2,hxj,hw]
        · exact .inr ⟨hB,.inl ⟨by rw [hxj,hm]; simp,by rw [hxj,hw]⟩⟩
      | none =>
        simp only [Option.isSome_none,cond_false]
        refine Ok.eq (fF _) ?_
        rw [zY]
        by_cases hrj:(be l)[j]? = some true
        · have hB:¬ A6 l x:=by
            rintro (h | h)
            · rw [hc] at h; cases h
            · rw [hxj] at h; exact h hrj
          have hm0:bH aA (rk l x.N.toNat) memo0=none:=by
            rw [hxj]
            cases h0:bH aA (rk l j) memo0 with
            | none=>rfl
            | some w=>rw [h3 _ _ h0] at hm; cases hm
          rw [decide_eq_true hrj]
          simp only [Bool.not_true,cond_false]
          have hg:=h1.get j hjl
          by_cases hjI:j ∈ idx
          · rw [if_pos hjI] at hg
            rw [hg]
            simp only [Option.isSome_some,Bool.not_true,cond_false]
            unfold df
            rw [ea,e4,hg]
            exact done h1 h2 h3 h4 h5 h7 (.inr ⟨hB,.inr ⟨by rw [hxj]; exact hjI,by rw [hxj]; rfl,hm0⟩⟩)
          · rw [if_neg hjI] at hg
            rw [hg]
            simp only [Option.isSome_none,Bool.not_false,cond_true]
            have hL:ix (rk l j)=some ⟨#[48]⟩:=by
              unfold ix
              rcases nY (l:=l) (n:=j) with ⟨_,h⟩ | ⟨h,_⟩
              · exact absurd hrj h
              · rw [h]; rfl
            have hadd:=h1.add hl8 hjl hrj (by have:=wE hri hj hrj; omega) hjI
            have hlen:=h1.len
            refine Ok.eq hL (Ok.gd (eH (by simp; omega)) ?_)
            unfold df
            rw [ea,e4,cQ]
            refine done hadd h2 h3 (h4.trans (List.prefix_append _ _)) (.inr ⟨rfl,?_⟩) (fun q y hq hy=>?_) (.inr ⟨hB,.inr ⟨by rw [hxj]; exact List.mem_append_right _ (List.mem_singleton.2 rfl),?_,hm0⟩⟩)
            · have:=h4.length_le
              rw [List.length_append]; simp; omega
            · obtain ⟨w,q1,q2⟩:=h7 q y hq hy
              exact ⟨w,q1,q2.mono (iD.refl _) fun _ h=>List.mem_append_left _ h⟩
            · rw [hxj,h1.zero j hjI,xa]; rfl
        · have hB:A6 l x:=.inr (by rw [hxj]; exact hrj)
          have hA:pG l inp V x []=V j:=by
            unfold pG
            rw [if_neg (by rw [hc]; simp),n2,hxj]
          rw [decide_eq_false hrj]
          simp only [Bool.not_false,cond_true]
          have hlow:=vi hri hj hrj
          refine Ok.bind (hv.rule _ j h2 hjl (by rw [q9 hrj]; omega)) fun y hy=>?_
          obtain ⟨f1,f2,f3⟩:=hy
          exact done (h1.grow f3) f2 (h3.trans f3) h4 h5 (fun q y hq hy=>by
            obtain ⟨w,q1,q2⟩:=h7 q y hq hy
            exact ⟨w,q1,q2.mono f3 fun _ h=>h⟩) (.inl ⟨hB,by rw [hA,f1]⟩)
theorem Cz {m:List (ae×ByteArray)} {list:List ae} {rules:List aL} {rev:Int} {inps:List aG} {recs:List al} {seen:List (ae×(List ae))} (h1:tS l V inp n0 memo0 m list idx0 a) (h2:pc l V b (aj.mk rules (ah.mk rev inps recs) memo0 seen)) {t:na} (ht:dz l (rk l i) []=some t) {β:Type} {R:β→Prop} {g:_→Option β} (hg:∀ y,A8 l V b inp n0 a i r memo0 idx0 ch0 y→Ok (g y) R) :
    Ok ((loop (fun s:(List (ae×ByteArray))×(List ae)×Bool×(List ByteArray)×(List aL)×Int×(List aG)×(List al)×(List (ae×ByteArray))×(List (ae×(List ae)))×Bool×ByteArray×Int×ByteArray=>dg vrec p s.1 s.2.1 s.2.2.1 s.2.2.2.1 s.2.2.2.2.1 s.2.2.2.2.2.1 s.2.2.2.2.2.2.1 s.2.2.2.2.2.2.2.1 s.2.2.2.2.2.2.2.2.1 s.2.2.2.2.2.2.2.2.2.1 s.2.2.2.2.2.2.2.2.2.2.1 s.2.2.2.2.2.2.2.2.2.2.2.1 s.2.2.2.2.2.2.2.2.2.2.2.2.1 s.2.2.2.2.2.2.2.2.2.2.2.2.2) (m,list,ch0,[],rules,rev,inps,recs,memo0,seen,t.Done,t.Value,t.Ask.Kind,t.Ask.Text)).bind g) R:=by
  refine Ok.loop (Gr l V b inp n0 a i r memo0 idx0 ch0) (A8 l V b inp n0 a i r memo0 idx0 ch0) r.Asks.length ?_ (fun k s hk hI=>(Hi hR hv hi hr hp hk s hI).mono fun y hy=>by cases y <;> exact hy) hg
  exact ⟨idx0,h1,h2,iD.refl _,List.prefix_refl _,.inl ⟨rfl,rfl⟩,rfl,fun q x hq=>absurd hq (by omega),ht⟩
end
end
section
open Go.RowKit
open Go.Lib hiding intOf
def tz (a:Nat→Nat):Nat→Nat
  | 0=>0
  | n + 1=>tz a n + a n
theorem Aa {a a':Nat→Nat} (h:∀ j,a j≤a' j):∀ n,tz a n≤tz a' n
  | 0=>Nat.le_refl _
  | n + 1=>Nat.add_le_add (Aa h n) (h n)
theorem Ab {a a':Nat→Nat} (h:∀ j,a j≤a' j) {i:Nat} (hi:a i < a' i):∀ n,i < n→tz a n < tz a' n
  | 0,h0=>absurd h0 (by omega)
  | n + 1,h0=>by
    have h1:=h n
    have h2:=Aa h n
    show tz a n + a n < tz a' n + a' n
    rcases Nat.lt_or_ge i n with h3 | h3
    · have:=Ab h hi n h3; omega
    · obtain rfl:i=n:=by omega
      omega
theorem vo {a:Nat→Nat} (h:∀ j,a j < 65536):∀ n,tz a n≤n * 65536
  | 0=>by simp [tz]
  | n + 1=>by
    have:=vo h n
    have:=h n
    show tz a n + a n≤_
    omega
theorem CR {a m:Nat} (h:∀ q,a.testBit q=true→m.testBit q=true):a≤m:=by
  have:a &&& m=a:=by
    apply Nat.eq_of_testBit_eq
    intro q
    rw [Nat.testBit_and]
    cases ha:a.testBit q with
    | false=>rfl
    | true=>rw [h q ha]; rfl
  rw [← this]
  exact Nat.and_le_right
section
variable {l:List aL} {V:Nat→ByteArray} {b:ah} {inp:ae→ByteArray} {vrec:aj→ae→Option (ByteArray×aj)}
def ZY (l:List aL) (V:Nat→ByteArray) (inp:ae→ByteArray) (idx:List Nat) (a:Nat→Nat) (i:Nat):Prop :=
  ∃ r,l[i]? = some r∧(∀ q,r.C.toNat.testBit q=true→(a i).testBit q=true)∧∀ x ∈ r.Asks,(A6 l x→∀ q,(fH (pG l inp V x [])).toNat.testBit q=true→(a i).testBit q=true) ∧
    (¬ A6 l x→(∀ q,RB l inp V x.N.toNat q→(a i).testBit q=true)∨(x.N.toNat ∈ idx∧∀ q,(a x.N.toNat).testBit q=true→(a i).testBit q=true))
theorem y0 {idx:List Nat} {a:Nat→Nat} (hc:∀ i ∈ idx,ZY l V inp idx a i) {i q:Nat} (h:RB l inp V i q):i ∈ idx→(a i).testBit q=true:=by
  induction h with
  | own h1 h2 =>
    intro hi
    obtain ⟨r,g1,g2,g3⟩:=hc _ hi
    rw [h1] at g1
    obtain rfl:=Option.some.inj g1
    exact g2 _ h2
  | ask h1 h2 h3 h4 =>
    intro hi
    obtain ⟨r,g1,g2,g3⟩:=hc _ hi
    rw [h1] at g1
    obtain rfl:=Option.some.inj g1
    exact (g3 _ h2).1 h3 _ h4
  | ring h1 h2 h3 h4 h5 ih =>
    intro hi
    obtain ⟨r,g1,g2,g3⟩:=hc _ hi
    rw [h1] at g1
    obtain rfl:=Option.some.inj g1
    rcases (g3 _ h2).2 (by rintro (h | h); rw [h3] at h; cases h; exact h h4) with h | ⟨h,k⟩
    · exact h _ h5
    · exact k _ (ih h)
theorem si (hR:bx l) (hD:zx l inp V) {j:Nat} (hj:(be l)[j]? = some true):∃ u:Nat,V j=cz u∧u < 65536∧(fH (V j)).toNat=u∧∀ q,u.testBit q=true↔RB l inp V j q:=by
  have hl:j < l.length:=by have:=bh hj; unfold be at this; rwa [List.length_map] at this
  have hg:=List.getElem?_eq_getElem hl
  obtain ⟨u,h1,h2,h3⟩:=hD.ring j l[j] hg (by rw [nF hl] at hj; exact Option.some.inj hj)
  exact ⟨u,h1,h2,by rw [h1,sV h2]; omega,h3⟩
theorem vt {n:Nat} (h:n < 65536):(fH (cz (n:Int))).toNat=n:=by rw [sV h]; omega
theorem y9 {x:cI} (h:¬ A6 l x):x.Cell=false∧(be l)[x.N.toNat]? = some true:=by
  constructor
  · cases hc:x.Cell with
    | false=>rfl
    | true=>exact absurd (.inl hc) h
  · exact Classical.byContradiction fun e=>h (.inr e)
theorem tS.set {n0:Nat} {memo m:List (ae×ByteArray)} {list:List ae} {idx:List Nat} {a:Nat→Nat} (h:tS l V inp n0 memo m list idx a) (hl:l.length≤8) {i u:Nat} (hi:i ∈ idx) (hu:u < 65536) (hlow:∀ q,(a i).testBit q=true→u.testBit q=true) (hRB:∀ q,u.testBit q=true→RB l inp V i q) (hF:∀ q,u.testBit q=true→Fb l V inp memo a i q) :
    tS l V inp n0 memo (cX aA (rk l i) (cz (u:Int)) m) list idx (fun j=>if j=i then u else a j):=by
  have hmono:∀ j q,(a j).testBit q=true→(if j=i then u else a j).testBit q=true:=by
    intro j q hq
    by_cases e:j=i
    · rw [if_pos e]; rw [e] at hq; exact hlow q hq
    · rw [if_neg e]; exact hq
  refine ⟨h.eq,h.nd,h.ring,h.head,fun j hj=>?_,fun j hj=>?_,fun j=>?_,fun j q hq=>?_,fun j hj q hq=>?_⟩
  · by_cases e:j=i
    · subst e
      rw [cQ,if_pos hi,if_pos rfl]
    · rw [d5 (fun e2=>e (vj (by omega) (by have:=(h.ring i hi).1; omega) e2)),h.get j hj]
      simp only [if_neg e]
  · have:j ≠ i:=fun e=>hj (e ▸ hi)
    show (if j=i then u else a j)=0
    rw [if_neg this]; exact h.zero j hj
  · show (if j=i then u else a j) < 65536
    split
    · exact hu
    · exact h.lt j
  · by_cases e:j=i
    · rw [if_pos e] at hq; rw [e]; exact hRB q hq
    · rw [if_neg e] at hq; exact h.le j q hq
  · by_cases e:j=i
    · rw [if_pos e] at hq; rw [e]; exact (hF q hq).mono (iD.refl _) hmono
    · rw [if_neg e] at hq; exact (h.up j hj q hq).mono (iD.refl _) hmono
section
variable {n0:Nat} {a:Nat→Nat} {i:Nat} {r:aL} {memo0 memo m m0:List (ae×ByteArray)} {idx0 idx:List Nat} {list list0:List ae} {ws:List ByteArray} {u:Nat} (hR:bx l) (hD:zx l inp V) (hi:l[i]? = some r) (hr:r.Ring=true)
  (h0:tS l V inp n0 memo0 m0 list0 idx0 a) (h1:tS l V inp n0 memo m list idx a) (hiI:i ∈ idx0) (hlen:ws.length=r.Asks.length) (hans:∀ (q:Nat) (x:cI),r.Asks[q]? = some x→∃ (w:ByteArray),ws[q]? = some w∧rp l V inp memo0 memo idx a x w)
  (hu:∀ q,u.testBit q=true↔r.C.toNat.testBit q=true∨∃ v ∈ ws,(fH v).toNat.testBit q=true)
include hR hD hi h0 h1 hiI hlen hans hu
omit hlen in
theorem Dx (q:Nat) (hq:(a i).testBit q=true):u.testBit q=true:=by
  obtain ⟨r',g1,g2⟩:=h0.up i hiI q hq
  rw [hi] at g1
  obtain rfl:=Option.some.inj g1
  rcases g2 with g2 | ⟨x,g2,g3⟩
  · exact (hu q).2 (.inl g2)
  · obtain ⟨k,hk⟩:=List.mem_iff_getElem?.1 g2
    obtain ⟨w,w1,w2⟩:=hans k x hk
    refine (hu q).2 (.inr ⟨w,List.mem_of_getElem? w1,?_⟩)
    rcases w2 with ⟨w2,rfl⟩ | ⟨w2,w3⟩
    · rcases g3 with ⟨_,g3⟩ | ⟨g3,_⟩
      · exact g3
      · exact absurd w2 g3
    · obtain ⟨u',d1,d2,d3,d4⟩:=si hR hD (y9 w2).2
      rcases g3 with ⟨g3,_⟩ | ⟨_,g3⟩
      · exact absurd g3 w2
      · rcases w3 with ⟨_,rfl⟩ | ⟨_,rfl,w5⟩
        · rw [d3,d4]
          rcases g3 with ⟨_,g3⟩ | g3
          · exact g3
          · exact h1.le _ _ g3
        · rw [vt (h1.lt _)]
          rcases g3 with ⟨g3,_⟩ | g3
          · exact absurd w5 g3
          · exact g3
omit h0 hiI in
theorem F5 (q:Nat) (hq:u.testBit q=true):RB l inp V i q∧Fb l V inp memo a i q:=by
  rcases (hu q).1 hq with g | ⟨w,g1,g2⟩
  · exact ⟨.own hi g,r,hi,.inl g⟩
  · obtain ⟨k,hk⟩:=List.mem_iff_getElem?.1 g1
    have hk2:=bh hk
    have hx:=List.getElem?_eq_getElem (l:=r.Asks) (i:=k) (by omega)
    obtain ⟨w',w1,w2⟩:=hans k _ hx
    rw [hk] at w1
    obtain rfl:=Option.some.inj w1
    have hm:=List.mem_of_getElem? hx
    rcases w2 with ⟨w2,rfl⟩ | ⟨w2,w3⟩
    · exact ⟨.ask hi hm w2 g2,r,hi,.inr ⟨_,hm,.inl ⟨w2,g2⟩⟩⟩
    · obtain ⟨u',d1,d2,d3,d4⟩:=si hR hD (y9 w2).2
      rcases w3 with ⟨w3,rfl⟩ | ⟨_,rfl,w5⟩
      · rw [d3,d4] at g2
        exact ⟨.ring hi hm (y9 w2).1 (y9 w2).2 g2,r,hi,.inr ⟨_,hm,.inr ⟨w2,.inl ⟨w3,g2⟩⟩⟩⟩
      · rw [vt (h1.lt _)] at g2
        exact ⟨.ring hi hm (y9 w2).1 (y9 w2).2 (h1.le _ _ g2),r,hi,.inr ⟨_,hm,.inr ⟨w2,.inr g2⟩⟩⟩
omit h0 hiI hlen in
theorem F4 (hau:a i=u):ZY l V inp idx a i:=by
  refine ⟨r,hi,fun q hq=>?_,fun x hx=>?_⟩
  · rw [hau]; exact (hu q).2 (.inl hq)
  · obtain ⟨k,hk⟩:=List.mem_iff_getElem?.1 hx
    obtain ⟨w,w1,w2⟩:=hans k x hk
    have hw:∀ q,(fH w).toNat.testBit q=true→(a i).testBit q=true:=fun q hq=>by
      rw [hau]; exact (hu q).2 (.inr ⟨w,List.mem_of_getElem? w1,hq⟩)
    rcases w2 with ⟨w2,rfl⟩ | ⟨w2,w3⟩
    · exact ⟨fun _ q hq=>hw q hq,fun h=>absurd w2 h⟩
    · obtain ⟨u',d1,d2,d3,d4⟩:=si hR hD (y9 w2).2
      refine ⟨fun h=>absurd h w2,fun _=>?_⟩
      rcases w3 with ⟨_,rfl⟩ | ⟨w3,rfl,_⟩
      · exact .inl fun q hq=>hw q (by rw [d3,d4]; exact hq)
      · exact .inr ⟨w3,fun q hq=>hw q (by rw [vt (h1.lt _)]; exact hq)⟩
end
end
end
end Go.Proofs.YthefmilamdchiaaGreatDoor
