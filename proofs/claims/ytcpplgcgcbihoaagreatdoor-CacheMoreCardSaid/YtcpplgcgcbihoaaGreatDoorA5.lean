/- Texts of the proof, joined (5). -/
import Derived.Test.YtcpplgcgcbihoaaGreatDoorA4
import Derived.Test.YtcpplgcgcbihoaaGreatDoorA1
import Derived.Test.YtcpplgcgcbihoaaGreatDoorA2
import Derived.Test.YtcpplgcgcbihoaaGreatDoorA3
import Derived.Test.YtcpplgcgcbihoaaGreatDoorA0
import Derived.Lib.SliceRun
import Derived.Lib.AppendZerosOnto
import Derived.Lib.Overlaps
import Derived.Laws.Externs
import Derived.Test.YtcpplgcgcbihoaaGreatDoorProg
import Derived.Shelf.SlSortCmp.WholeK
import Derived.Deep.RegionHeld3
import Derived.Shelf.SlSortCmp.NoneTotal
import Derived.Lib.RowBridge
set_option linter.unusedVariables false
set_option linter.unusedSimpArgs false
set_option linter.unusedSectionVars false
namespace Go.Proofs.YtcpplgcgcbihoaaGreatDoor
section
open Go.RowKit
open Go.Lib hiding intOf
section
variable {l:List aN} {b:ah} {V:Nat->ByteArray}
structure G0 (l:List aN) (b:ah) (N:Nat) (t:dX):Prop where
 rules:t.l=l
 lv:xI l b t.b
 goals:∀ k∈t.s1,fP l k
 ng:t.s1.length<=32
 fr:∀ f∈t.o,GX l f
 len:t.o.length<=N
 ran:t.y.length<=N
theorem Bt (C:aV l) {N:Nat} (hN:N<=100) {t:dX} (h:G0 l b N t):ot t=some t:=by
 have hl:=C.high;have h1:=h.ng;have h2:=h.len;have h3:=h.ran;unfold ot;rw [h.rules,Em C,ax,wb (h.lv.ok.rm hl).1 (h.lv.ok.rm hl).2.1,ax,du (by simp; omega),xk h.fr (by omega),du (by simp; omega)];rw [<- h.rules]; rfl
theorem G0.le {N M:Nat} {t:dX} (h:G0 l b N t) (hm:N<=M):G0 l b M t:=⟨h.rules,h.lv,h.goals,h.ng,h.fr,cC h.len hm,cC h.ran hm⟩
theorem Ls (C:aV l) (hb:dF l b) {goals:List ae} (hg:∀ k∈goals,fP l k) (hn:goals.length<=32):∃ t,rh l b goals=some (t,0)/\G0 l b 0 t/\t.b=b:=by
 have ht:G0 l b 0 (dX.mk l b goals [] []):=⟨rfl,⟨hb,rfl,rfl⟩,hg,hn,fun f hf=>absurd hf cJ,bX _,bX _⟩;refine⟨_,?_,ht,rfl⟩;unfold rh;rw [Eh C hb hg hn,ax];simp only [show ((0:Int) != 0)=false from rfl,cond_false];rw [Bt C (by omega) ht]; rfl
theorem B5 {recs:List au} (h:Rm recs.length) (k:ae):qf recs k=some (recs.filter fun x=>!dt x.d k):=by
 unfold Rm at h;unfold qf qH;refine iq (em (xs:=recs) (fun i=>((recs.take i).filter fun x=>!dt x.d k,(i:Int))) rfl (r:=recs.filter fun x=>!dt x.d k) (fun i x hx=>?_) ?_) rfl
 ·have hlt:=aY hx;have hlen:=vN (fun x:au=>!dt x.d k) recs i;unfold nD nC;dsimp only;rw [dlt hlt,cond_true,bx,hx,ax,cH (by omega),bV hx,pZ];show cond (!dt x.d k) _ _=_;cases e:dt x.d k with
  | true=>simp [e]
  | false =>
   rw [nO,cond_true,du (by simp only [eS,vS]; omega)];simp [e,gd]
 ·unfold nD;dsimp only;rw [bZ,gz]; rfl
theorem dF.filter (h:dF l b) (p:au->Bool):dF l (ah.mk b.r b.i (b.s.filter p)) :=
 ⟨h.rev,h.ins,h.insA,fun r hr=>h.recs r (iC.1 hr).1,List.Pairwise.sublist List.filter_sublist h.recsA⟩
end
end
section
open Go.RowKit
open Go.Lib hiding intOf
def ym (l:List a7):Prop:=l.Pairwise fun a b=>cc a.d b.d<0
def vW (l:List a7) (r:a7):List a7:=(l.filter fun x=>decide (cc x.d r.d<0))++r::(l.filter fun x=>decide (0<cc x.d r.d))
theorem yR {l:List a7} {r x:a7}:x∈vW l r↔x=r∨(x∈l/\x.d≠r.d):=by
 unfold vW;rw [cD,cI,iC,iC];simp only [decide_eq_true_eq];constructor
 ·rintro (⟨h,h1⟩ | h | ⟨h,h1⟩)
  ·exact .inr ⟨h,tv h1⟩
  ·exact .inl h
  ·exact .inr ⟨h,fun e=>by rw [e,ul] at h1; omega⟩
 ·rintro (h | ⟨h,h1⟩)
  ·exact .inr (.inl h)
  ·rcases um x.d r.d with h2 | h2 | h2
   ·exact .inl ⟨h,h2⟩
   ·exact absurd h2 h1
   ·exact .inr (.inr ⟨h,o7.2 h2⟩)
theorem Gb {l:List a7} (h:ym l) (r:a7):ym (vW l r):=by
 unfold ym vW;rw [td];refine⟨GK _ h,ow.2 ⟨fun x hx=>?_,GK _ h⟩,fun x hx y hy=>?_⟩
 ·have:=(iC.1 hx).2;simp only [decide_eq_true_eq] at this;exact o7.1 this
 ·have h1:=(iC.1 hx).2;simp only [decide_eq_true_eq] at h1;rcases cI.1 hy with rfl | hy
  ·exact h1
  ·have h2:=(iC.1 hy).2;simp only [decide_eq_true_eq] at h2;exact lI h1 (o7.1 h2)
theorem JS {l:List a7} (h:ym l) {x y:a7} (hx:x∈l) (hy:y∈l) (e:x.d=y.d):x=y:=by
 induction l with
 | nil=>cases hx
 | cons z m ih =>
  have h':=ow.1 h;rcases cI.1 hx with e1 | h1
  ·rcases cI.1 hy with e2 | h2
   ·rw [e1,e2]
   ·subst e1; exact absurd e (tv (h'.1 y h2))
  ·rcases cI.1 hy with e2 | h2
   ·subst e2; exact absurd e.symm (tv (h'.1 x h1))
   ·exact ih h'.2 h1 h2
theorem OA {i j:Nat} (h:i<=j) (hj:j<=1000000000):IntKind.i64.wrap (rI .u64 (IntKind.u64.wrap (IntKind.i64.wrap ((i:Int)+j))) 1)=(((i+j) / 2:Nat):Int):=by
 have e:IntKind.i64.wrap ((i:Int)+j)=((i+j:Nat):Int):=by rw [qq (by omega) (by omega)]; omega
 have e2:IntKind.u64.wrap ((i+j:Nat):Int)=((i+j:Nat):Int):=by simp [IntKind.wrap,IntKind.bits,IntKind.signed]; omega
 have e3:rI .u64 ((i+j:Nat):Int) 1=(((i+j) / 2:Nat):Int):=by
  have:rI .u64 ((i+j:Nat):Int) 1=Int.fdiv ((i+j:Nat):Int) 2:=rfl;rw [this,Int.fdiv_eq_ediv_of_nonneg _ (by omega)];omega
 rw [e,e2,e3,qq (by omega) (by omega)]
theorem Jp {l:List a7} {r:a7} (h:ym l) (hl:Rm l.length) {u:ah} (hrev:IntKind.i64.wrap (u.r+1)=r.a) (g:Int) :
  ((loop (fun s:(List a7)×Bool×Int=>fC u l (bU.mk r.d r.u) s.1 s.2.1 s.2.2) (([]:List a7),false,0)).bind fun q=>ez u g (bU.mk r.d r.u) q.1 q.2)=ey g (vW l r):=by
 unfold Rm at hl;have hpl:∀ i,((l.take i).filter fun x=>decide (cc x.d r.d<0)).length+((l.take i).filter fun x=>decide (0<cc x.d r.d)).length<=l.length:=fun i=>by
  have h1:∀ m:List a7,(m.filter fun x=>decide (cc x.d r.d<0)).length+(m.filter fun x=>decide (0<cc x.d r.d)).length<=m.length:=by
   intro m
   induction m with
   | nil=>simp
   | cons y m ih =>
    by_cases a:cc y.d r.d<0
    ·rw [uP (by simpa using a),rK (by simp; omega)]; simp only [eS]; omega
    ·by_cases b:0<cc y.d r.d
     ·rw [rK (by simpa using a),uP (by simpa using b)]; simp only [eS]; omega
     ·rw [rK (by simpa using a),rK (by simpa using b)]; simp only [eS]; omega
  have:=h1 (l.take i);rw [je] at this; omega
 have key:Ok ((loop (fun s:(List a7)×Bool×Int=>fC u l (bU.mk r.d r.u) s.1 s.2.1 s.2.2) (([]:List a7),false,0)).bind fun q=>ez u g (bU.mk r.d r.u) q.1 q.2) fun y=>ey g (vW l r)=some y:=by
  refine bz (fun n t=>n<=l.length/\t.2.2=(n:Int)/\((t.1=l.take n/\t.2.1=false/\∀ x∈l.take n,cc x.d r.d<0)∨(t.1=vW (l.take n) r/\t.2.1=true/\∃ x∈l.take n,¬ cc x.d r.d<0)))
   (fun t=>(t.1=l/\t.2=false/\∀ x∈l,cc x.d r.d<0)∨(t.1=vW l r/\t.2=true)) l.length ⟨bT _,rfl,.inl ⟨rfl,rfl,by simp⟩⟩ (fun n t hn hI=>?_) (fun t ht=>?_)
  ·obtain⟨out,put,i⟩:=t;obtain⟨_,h1,h2⟩:=hI;dsimp only at h1 h2;subst h1;unfold fC;dsimp only;by_cases hi:n<l.length
   ·have hx:l[n]? = some l[n]:=bA hi;obtain⟨x,hxe⟩:∃ x,x=l[n]:=⟨_,rfl⟩;rw [<- hxe] at hx;rw [dlt hi,cond_true,bx,hx,ax,oP,ax];have tk:=bV hx;have hle:=hpl n;rcases h2 with⟨rfl,rfl,h3⟩|⟨rfl,rfl,y,hy,h3⟩
    ·have e0:((l.take n).filter fun x=>decide (cc x.d r.d<0))=l.take n:=xF.2 fun x hx=>by simpa using h3 x hx
     have e1:((l.take n).filter fun x=>decide (0<cc x.d r.d))=[]:=GN.2 fun x hx=>by have:=h3 x hx; simp; omega
     rcases sP x.d r.d with hc | hc | hc
     ·rw [hc];unfold fB fA fy;dsimp only;simp only [hrev];rw [show bP ((l.take n).length+[x].length)=true from du (by simp; omega),cH (by omega)];refine ai ⟨hi,hi,rfl,.inl ⟨tk.symm,rfl,fun z hz=>?_⟩⟩;rw [tk] at hz;rcases cD.1 hz with hz | hz
      ·exact h3 z hz
      ·simp only [cI,cJ,or_false] at hz; subst hz; omega
     ·rw [hc];unfold fB fA fy;dsimp only;simp only [hrev];rw [cH (by omega)];rw [show bP ((l.take n).length+[r].length)=true from du (by simp; omega)];refine ai ⟨hi,hi,rfl,.inr ⟨?_,rfl,x,by rw [tk]; simp,by omega⟩⟩;unfold vW;rw [tk,pZ,pZ,e0,e1];simp [hc]
     ·rw [hc];unfold fB fA fy;dsimp only;simp only [hrev];rw [cH (by omega)];rw [show bP ((l.take n).length+[r].length)=true from du (by simp; omega),show bP ((l.take n++[r]).length+[x].length)=true from du (by simp; omega)];refine ai ⟨hi,hi,rfl,.inr ⟨?_,rfl,x,by rw [tk]; simp,by omega⟩⟩;unfold vW;rw [tk,pZ,pZ,e0,e1];simp [hc]
    ·have hyx:cc y.d x.d<0:=by
      obtain⟨j,hj⟩:=iD.1 hy;rw [rL] at hj;split at hj
      ·rename_i hjn;obtain⟨q1,q2⟩:=bS.1 hj;have:=eI.1 h j n q1 hi hjn;rw [q2,<- hxe] at this; exact this
      ·cases hj
     have hc:0<cc x.d r.d:=by
      rw [o7];exact ny (b:=y.d) h3 hyx
     have hc1:cc x.d r.d=1:=by rcases sP x.d r.d with h | h | h <;> omega
     rw [hc1];unfold fB fA fy;dsimp only;simp only [hrev];rw [cH (by omega),show bP ((vW (l.take n) r).length+[x].length)=true from du (by unfold vW; simp only [cS,eS,vS]; omega)];refine ai ⟨hi,hi,rfl,.inr ⟨?_,rfl,y,by rw [tk]; exact iB _ hy,h3⟩⟩;unfold vW;rw [tk,pZ,pZ];simp [hc1]
   ·have hn2:n=l.length:=by omega
    rw [hn2,bZ,cond_false];rw [hn2,gz] at h2;refine ai ?_;rcases h2 with⟨a,b,c⟩|⟨a,b,c⟩
    ·exact .inl ⟨a,b,c⟩
    ·exact .inr ⟨a,b⟩
  ·obtain⟨out,put⟩:=t;dsimp only at ht ⊢;unfold ez;dsimp only;simp only [hrev];rcases ht with⟨rfl,rfl,h3⟩|⟨rfl,rfl⟩
   ·simp only [nO,cond_true];rw [show bP (out.length+[r].length)=true from du (by simp; omega)];refine⟨_,rfl,?_⟩;unfold vW;rw [xF.2 fun x hx=>by simpa using h3 x hx,GN.2 fun x hx=>by have:=h3 x hx; simp; omega];rfl
   ·exact⟨_,rfl,rfl⟩
 obtain⟨y,e,e2⟩:=key;exact e.trans e2.symm
end
section
set_option maxRecDepth 100000
set_option maxHeartbeats 4000000
open Go.RowKit
variable (T:Nat->Prop) (L:World) (hT:TW T L)
include hT
noncomputable section
def qB (b:Int) (c:LI) (d:LR) (e:LN) (f:Int):=some (((ah.mk b c d),(bj.mk e f)))
def dY (g:Int) (e:LN) (f b:Int) (c:LI) (d:LR):Option (Fl (Int×LN×Int×Int×LI×LR) (Int×LI×LR×LN×Int)):=some (.go (IntKind.i64.wrap (g-1),e,f,b,c,d))
def qC (h j:Int) (k:LI) (m:LR) (n:Int) (f:LN) (g:Int) (p:LU) (q:Int) (t:LI) (u:LR) (v:LK) (x:LF) (z:LK):=cond (n==0) ((cj (bj.mk f g) 30).bind fun d=>(uA vv (dX.mk p (ah.mk q t u) v x z) d.1).bind fun c=>(px (dX.mk c.1.l (ah.mk c.1.b.r c.1.b.i c.1.b.s) c.1.s1 c.1.o c.1.y)).bind fun e=>dY h d.2.L d.2.r1 e.r e.i e.s) (dY h f g j k m)
def jj (e:LU) (j f:Int) (g:LI) (h:LR) (c:(Int×bj)) (x:Bool):=cond x ((iR (bj.mk c.2.L c.2.r1) 2).bind fun m=>(eP (ah.mk f g h) m.1).bind fun n=>dY j m.2.L m.2.r1 n.1.r n.1.i n.1.s) (cond (c.1==3) ((lL (bj.mk c.2.L c.2.r1) e 2).bind fun p=>(rh e (ah.mk f g h) p.1).bind fun d=>qC j f g h d.2 p.2.L p.2.r1 d.1.l d.1.b.r d.1.b.i d.1.b.s d.1.s1 d.1.o d.1.y) (cond (c.1==4) ((cj (bj.mk c.2.L c.2.r1) 3).bind fun k=>cond (k.1==0) ((cj (bj.mk k.2.L k.2.r1) 200).bind fun q=>(rj (ah.mk f g h) q.1 ([])).bind fun t=>dY j q.2.L q.2.r1 t.1.r t.1.i t.1.s) (dY j k.2.L k.2.r1 f g h)) ((lL (bj.mk c.2.L c.2.r1) e 2).bind fun u=>(fp uu e (ah.mk f g h) u.1).bind fun v=>dY j u.2.L u.2.r1 v.1.r v.1.i v.1.s)))
def qD (c:LU) (g:Int) (h:LN) (i d:Int) (e:LI) (f:LR):=cond (decide ((0:Int)<g)) ((cj (bj.mk h i) 8).bind fun b=>cond (b.1==0) (jj c g d e f b (b.1==0)) (cond (b.1==1) (jj c g d e f b (b.1==1)) (jj c g d e f b (b.1==2)))) (some (.out (d,e,f,h,i)))
def sS (f:bj) (d:LU) (c:ah) (e:Int):=(cj f (IntKind.i64.wrap (e+1))).bind fun b=>(loop (fun s:Int×LN×Int×Int×LI×LR=>qD d s.1 s.2.1 s.2.2.1 s.2.2.2.1 s.2.2.2.2.1 s.2.2.2.2.2) (b.1,b.2.L,b.2.r1,c.r,c.i,c.s)).bind fun r=>qB r.1 r.2.1 r.2.2.1 r.2.2.2.1 r.2.2.2.2
theorem EJ (g:bj) (d:LU) (M:ah) (bl:Int) (f A:Value) (v4 v5:Value) (m:Nat) (lt:L.heap[m]? = some (.cells (bo g f).toArray 84 (0,0))) (j3:¬ T m) (m0:aF (a6.int .i64) (dT T [.box m (bo g f) 84]) L f g.L) (m1:aF an (dT T [.box m (bo g f) 84]) L A d) (m2:aF ac (dT T [.box m (bo g f) 84]) L v4 M.i) (m3:aF aa (dT T [.box m (bo g f) 84]) L v5 M.s) (hLv:dh (dT T [.box m (bo g f) 84]) L) (P0:Nat->Prop) (el:∀ k,(fun k=>k=m) k∨L.heap.size<=k->P0 k) (jb:(pS P0 [aL ac v4 M.i,aL (a6.int .i64) f g.L,aL an A d] aa 33 v5 M.s).p (dT T [.box m (bo g f) 84]) L) (y:ah×bj) (B:sS g d M bl=some y):bg aR (fun k=>k=m) 27 [pt m 0,A,.agg (aU M v4 v5).toArray,aj bl] L (fun v w'=>∃ (v6 v7 v8:Value),v = .agg (aU y.1 v6 v7).toArray/\aF ac (dT T [.box m (bo y.2 v8) 84]) w' v6 y.1.i/\aF aa (dT T [.box m (bo y.2 v8) 84]) w' v7 y.1.s/\w'.heap[m]? = some (.cells (bo y.2 v8).toArray 84 (0,0))/\aF (a6.int .i64) (dT T [.box m (bo y.2 v8) 84]) w' v8 y.2.L/\f=v8/\(pS P0 [aL ac v6 y.1.i,aL (a6.int .i64) f g.L,aL an A d] aa 33 v7 y.1.s).p (dT T [.box m (bo y.2 v8) 84]) w'):=by
 refine tO (c:=_) Tryz.func27 rfl T 80 Tryz.ntmps27 hT rfl lt j3 fun a I=>?_;replace I:=(((((I.fact (pS P0 [aL ac v4 M.i,aL (a6.int .i64) f g.L,aL an A d] aa 33 v5 M.s) jb).fact bH hLv).fS m0).fS m1).fS m2).fS m3;unfold sS at B;refine kB I fun z nv a w O I=>?_;refine ka I mw fun D o1 a w O I=>?_;refine am I fun a I=>?_;refine aM (J:=fun a w=>∃ (cb:Int) (af:LI) (ag:LR) (dn:LN) (ds:Int) (a0 a1:Value),St L (fun k=>k=m) T 80 [(6,pt z 0),(8,pt D 0)] [.box z [aj cb,a0,a1] 25,.box D [aj 0,.slice none 0 0,.slice none 0 0] 25,.box m [f,aj ds] 84] [aL ac a0 af,aL aa a1 ag,aL (a6.int .i64) f dn,aL (a6.int .i64) f g.L,aL an A d,bH,pS P0 [aL ac a0 af,aL (a6.int .i64) f g.L,aL an A d] aa 33 a1 ag] a w/\qB cb af ag dn ds=some y) ?_ ?_
 ·refine am I fun a I=>?_;obtain⟨k3,hD,B⟩:=bd B;refine wl rfl (cN I oh rfl rfl 2 rfl (bL _ _ (I.drop 2).dlt g (IntKind.i64.wrap (bl+1)) _ _ (I.zb 2 rfl) (I.zi 2 rfl) (aF.lent (i:=2) rfl I.g3) _ hD) fun _ w C O=>?_);obtain⟨of,he,hrow,f6,b3⟩:=C;obtain rfl:=he.symm;subst b3;refine⟨(bo k3.2 f),hrow,fun a I=>?_⟩;replace I:=I.fS (aF.back (i:=2) rfl f6);refine am I fun a I=>?_;obtain⟨r1,lv,hMo1⟩:=bd B;refine bF _ (fun s a w=>∃ (E:Int) (G:LN) (H e:Int) (n:LI) (q:LR) (t u:Value),(E,G,H,e,n,q)=s/\St L (fun k=>k=m) T 80 [(0,pt m 0),(1,A),(6,pt z 0),(8,pt D 0),(9,aj E)] [.box m [f,aj H] 84,.box z [aj e,t,u] 25,.box D [aj 0,.slice none 0 0,.slice none 0 0] 25] [aL an A d,aL (a6.int .i64) f G,aL ac t n,aL aa u q,aL (a6.int .i64) f g.L,bH,pS P0 [aL ac t n,aL (a6.int .i64) f g.L,aL an A d] aa 33 u q] a w) lv ⟨_,_,_,_,_,_,_,_,rfl,I.mt [2,1,0] [3,0,2,1,4,5,6]⟩ ?_;rintro s a w f1 ⟨E,G,H,e,n,q,t,u,rfl,I⟩ B hf1;have B:qD d E G H e n q=some f1:=B;unfold qD at B;refine aC ?_;refine am I fun a I=>?_;rcases cd B with⟨hX,B⟩|⟨hX,B⟩
  ·refine am I fun a I=>?_;refine aM (J:=fun a w=>∃ (e0:LN) (e2 ch:Int) (ak:LI) (ao:LR) (c5 c9:Value),St L (fun k=>k=m) T 80 [(0,pt m 0),(1,A),(6,pt z 0),(8,pt D 0),(9,aj E)] [.box m [f,aj e2] 84,.box z [aj ch,c5,c9] 25,.box D [aj 0,.slice none 0 0,.slice none 0 0] 25] [aL an A d,aL (a6.int .i64) f e0,aL ac c5 ak,aL aa c9 ao,aL (a6.int .i64) f g.L,bH,pS P0 [aL ac c5 ak,aL (a6.int .i64) f g.L,aL an A d] aa 33 c9 ao] a w/\dY E e0 e2 ch ak ao=some f1) ?_ ?_
   ·refine am I fun a I=>?_;obtain⟨x,hv,B⟩:=bd B;refine wl rfl (cN I oh rfl rfl 0 rfl (bL _ _ (I.drop 0).dlt (bj.mk G H) 8 _ _ (I.zb 0 rfl) (I.zi 0 rfl) (aF.lent (i:=0) rfl I.g1) _ hv) fun _ w C O=>?_);obtain⟨oi,he,hrow,f7,b4⟩:=C;obtain rfl:=he.symm;subst b4;refine⟨(bo x.2 f),hrow,fun a I=>?_⟩;replace I:=I.fS (aF.back (i:=0) rfl f7);refine am I fun a I=>?_;refine aM (J:=fun a w=>∃ (e4:Bool),St L (fun k=>k=m) T 80 [(0,pt m 0),(1,A),(6,pt z 0),(8,pt D 0),(9,aj E),(21,aj x.1),(32,.bool e4)] [.box m (bo x.2 f) 84,.box z [aj e,t,u] 25,.box D [aj 0,.slice none 0 0,.slice none 0 0] 25] [aL an A d,aL (a6.int .i64) f x.2.L,aL ac t n,aL aa u q,aL (a6.int .i64) f g.L,bH,pS P0 [aL ac t n,aL (a6.int .i64) f g.L,aL an A d] aa 33 u q] a w/\jj d E e n q x e4=some f1) ?_ ?_
    ·exact fz
    rintro a w ⟨e4,I,B⟩;unfold jj at B;rcases cd B with⟨hY,B⟩|⟨hY,B⟩
    ·refine am I fun a I=>?_;refine dr [(2,.blk (some m)),(7,.blk (some z))] I fun w hQ I=>?_;refine dq 0 I (l:=[.blk (some m)]) (v:=.agg #[aj e,t,u]) (dm I rfl f9 1 rfl (gA I 1 rfl rfl 0 rfl rfl (by decide) bO) (us:=[aj e,t,u]) rfl rfl (fun h=>by cases h)) fun a I=>?_;refine gE [1] I fun a I=>?_;obtain⟨hm,hw,B⟩:=bd B;refine e1 2 (iQ I Mi rfl rfl 0 rfl (pa _ _ (I.drop 0).dlt (bj.mk x.2.L x.2.r1) 2 _ _ (I.zb 0 rfl) (I.zi 0 rfl) (aF.lent (i:=0) rfl I.g1) (bH.keep I.g5 (al _ _) (fun k O=>.inl ((mZ (i:=0) rfl k).1 O))) _ hw) fun _ w C O=>?_);obtain⟨e8,ck,oj,he,⟨f2,et,f8⟩,hrow,fd,b5⟩:=C;obtain rfl:=he.symm;subst b5;refine⟨(bo hm.2 f),[gn e8 ck],hrow,gc ⟨f2,by decide⟩ et,wX _,fun a I=>⟨jf rfl O gB,?_⟩⟩;replace I:=((I.fR (f8.keep (al _ _) (c8 (i:=0) rfl [gn e8 ck] _))).fS (fd.sub (c8 (i:=0) rfl [gn e8 ck] _))).zf (R:=br) 0 rfl 1 rfl;obtain⟨k0,hx,B⟩:=bd B;refine ec 3 I Kd (nE _ _ I.dlt I.g8 (ah.mk e n q) hm.1 _ _ _ I.g5 I.g6 I.g0 _ hx) fun _ w C a O U=>?_;obtain⟨k4,md,ok,ms,he,fl,fn,ca⟩:=C;obtain rfl:=he.symm;have I:=Ar U fl fn ca;refine gE [4,5,6] I fun a I=>?_;refine es 7 I fun w I=>?_;refine eD ?_;replace I:=(I.zf (R:=ac) 0 rfl 1 rfl).zg (P:=P0) (R:=aa) el [aL ac k4 k0.1.i,aL (a6.int .i64) f g.L,aL an A d] ⟨⟨0,rfl⟩,⟨10,rfl⟩,⟨6,rfl⟩,trivial⟩ 0 rfl 1 rfl;exact fin
    refine am I fun a I=>?_;rcases cd B with⟨i0,B⟩|⟨i0,B⟩
    ·refine am I fun a I=>?_;refine aM (J:=fun a w=>∃ (e3:Int) (b0:LN) (b2:Int) (bs:LU) (K:Int) (bt:LI) (c1:LR) (c2:LK) (c3:LF) (c4:LK) (av:Nat) (a2:Value) (cl:LV) (a3:Value) (cs:LV) (a4:Value) (cv:LV) (a5:Value) (d1:LV) (a9:Value) (d2:LV) (ab:Value) (d3:LV),St L (fun k=>k=m) T 80 [(0,pt m 0),(1,A),(6,pt z 0),(8,pt D 0),(9,aj E),(10,pt av 0),(11,aj e3)] [.box m [f,aj b2] 84,.box z [aj e,t,u] 25,.box D [aj 0,.slice none 0 0,.slice none 0 0] 25,cr a2 cl,be a3 cs,aJ a4 cv,aA a5 d1,dP a9 d2,aA ab d3,.box av [a2,aj K,a3,a4,a5,a9,ab] 139] [aL an A d,aL (a6.int .i64) f b0,aL ac t n,aL aa u q,ap an cl bs,ap ac cs bt,ap aa cv c1,ap ad d1 c2,ap aB d2 c3,ap ad d3 c4,aL (a6.int .i64) f g.L,bH,pS P0 [aL ac t n,aL (a6.int .i64) f g.L,aL an A d] aa 33 u q] a w/\qC E e n q e3 b0 b2 bs K bt c1 c2 c3 c4=some f1) ?_ ?_
     ·obtain⟨N178,hq⟩:∃ N,N=w.heap.size:=⟨_,rfl⟩;replace I:=I.fact (IS N178) (pP hq);refine dr [(4,.blk (some m)),(5,.bks []),(10,.new N178)] I fun w hQ I=>?_;refine gE [0] I fun a I=>?_;refine dq 1 I (l:=[.blk (some m)]) (v:=.agg #[aj e,t,u]) (dm I rfl f9 1 rfl (gA I 1 rfl rfl 0 rfl rfl (by decide) bO) (us:=[aj e,t,u]) rfl rfl (fun h=>by cases h)) fun a I=>?_;refine gE [2,3] I fun a I=>?_;obtain⟨Z,eq,B⟩:=bd B;refine dQ (i:=4) (j:=9) rfl rfl (by kernel_rfl) rfl rfl ?_ ?_
      ·skip;refine id (iQ I Kf rfl rfl 0 rfl (pb _ _ (I.drop 0).dlt (bj.mk x.2.L x.2.r1) d 2 _ _ _ (I.zb 0 rfl) (I.zi 0 rfl) (aF.lent (i:=0) rfl I.g2) (aF.lent (i:=0) rfl I.g1) (bH.keep I.g6 (al _ _) (fun k O=>.inl ((mZ (i:=0) rfl k).1 O))) _ eq) fun _ w C O=>?_);obtain⟨ea,dc,op,he,⟨f3,ex,fr⟩,hrow,fs,b7⟩:=C;obtain rfl:=he.symm;subst b7;refine⟨(bo Z.2 f),[aA ea dc],hrow,gc ⟨f3,by decide⟩ ex,wX _,fun a I=>⟨jf rfl O gB,?_⟩⟩;replace I:=((I.fR (fr.keep (al _ _) (c8 (i:=0) rfl [aA ea dc] _))).fS (fs.sub (c8 (i:=0) rfl [aA ea dc] _))).zf (R:=ad) 0 rfl 1 rfl;obtain⟨o2,er,B⟩:=bd B;refine dQ (i:=5) (j:=9) rfl rfl (by kernel_rfl) rfl rfl ?_ ?_
       ·skip;replace I:=I.re [] [0,1,2];refine id (ci I Og rfl rfl (tW _ _ I.zt d (ah.mk e n q) Z.1 _ _ _ _ I.dok I.d4 I.d6 I.d7 I.d0 I.d9 _ er) fun _ w C a O U=>⟨jf rfl O we,?_⟩);obtain⟨os,mv,p0,n0,p1,n1,p2,n2,p3,n3,p4,n4,he,fM,g7,gb,gi,gs,gu,i1⟩:=C;obtain rfl:=he.symm;have I:=U _ i1;replace I:=(((((I.fR (fM.keep (al _ _) (ay _))).fR (g7.keep (al _ _) (ay _))).fR (gb.keep (al _ _) (ay _))).fR (gi.keep (al _ _) (ay _))).fR (gs.keep (al _ _) (ay _))).fR (gu.keep (al _ _) (ay _));refine gE [6,7,8] I fun a I=>?_;have i2:=(I.g9:N178<=w.heap.size);refine e1 9 (df I wL rfl fun hH i3 a w O I=>⟨fq (O),?_⟩);refine dw 10 (.blk (some hH)) _ (by kernel_rfl) (pT (cC i2 i3)) ?_;refine es 10 I fun w I=>?_;refine gE [11] I fun a I=>?_;refine eD ?_;exact⟨_,_,_,_,_,_,_,_,_,_,_,_,_,_,_,_,_,_,_,_,_,_,_,I.mt [7,8,9,1,2,3,4,5,6,0] [10,7,12,13,5,4,3,2,1,0,14,15,16],B⟩
       skip;have i4:=(I.g3:N178<=w.heap.size);refine id (df I wL rfl fun hI i5 a w O I=>⟨fq (O),?_⟩);refine dw 10 (.blk (some hI)) _ (by kernel_rfl) (pT (cC i4 i5)) ?_;replace I:=I.re [] [0,1,2,3];refine e1 5 (ci I Og rfl rfl (tW _ _ I.zt d (ah.mk e n q) Z.1 _ _ _ _ I.dok I.d4 I.d6 I.d7 I.d0 I.d9 _ er) fun _ w C a O U=>⟨jf rfl O we,?_⟩);obtain⟨kk,hK,ks,hM,kt,hN,l0,hP,l1,hV,l2,hW,he,Q,S,V,W,X,Y,e5⟩:=C;obtain rfl:=he.symm;have I:=U _ e5;replace I:=(((((I.fR (Q.keep (al _ _) (ay _))).fR (S.keep (al _ _) (ay _))).fR (V.keep (al _ _) (ay _))).fR (W.keep (al _ _) (ay _))).fR (X.keep (al _ _) (ay _))).fR (Y.keep (al _ _) (ay _));refine gE [6,7,8] I fun a I=>?_;refine es 10 I fun w I=>?_;refine gE [11] I fun a I=>?_;refine eD ?_;exact⟨_,_,_,_,_,_,_,_,_,_,_,_,_,_,_,_,_,_,_,_,_,_,_,I.mt [7,8,9,0,1,2,3,4,5,6] [10,7,12,13,5,4,3,2,1,0,14,15,16],B⟩
      skip;have i9:=(I.g0:N178<=w.heap.size);refine id (df I wL rfl fun hJ ib a w O I=>⟨fq (O),?_⟩);refine dw 10 (.blk (some hJ)) _ (by kernel_rfl) (pT (cC i9 ib)) ?_;refine e1 4 (iQ I Kf rfl rfl 1 rfl (pb _ _ (I.drop 1).dlt (bj.mk x.2.L x.2.r1) d 2 _ _ _ (I.zb 1 rfl) (I.zi 1 rfl) (aF.lent (i:=1) rfl I.g2) (aF.lent (i:=1) rfl I.g1) (bH.keep I.g6 (al _ _) (fun k O=>.inl ((mZ (i:=1) rfl k).1 O))) _ eq) fun _ w C O=>?_);obtain⟨ed,dk,p5,he,⟨f4,eT,gH⟩,hrow,h0,b8⟩:=C;obtain rfl:=he.symm;subst b8;refine⟨(bo Z.2 f),[aA ed dk],hrow,gc ⟨f4,by decide⟩ eT,wX _,fun a I=>⟨jf rfl O gB,?_⟩⟩;replace I:=((I.fR (gH.keep (al _ _) (c8 (i:=1) rfl [aA ed dk] _))).fS (h0.sub (c8 (i:=1) rfl [aA ed dk] _))).zf (R:=ad) 0 rfl 1 rfl;obtain⟨o3,hE,B⟩:=bd B;replace I:=I.re [] [0,1,2,3];refine e1 5 (ci I Og rfl rfl (tW _ _ I.zt d (ah.mk e n q) Z.1 _ _ _ _ I.dok I.d4 I.d6 I.d7 I.d0 I.d9 _ hE) fun _ w C a O U=>⟨jf rfl O we,?_⟩);obtain⟨kk,hK,ks,hM,kt,hN,l0,hP,l1,hV,l2,hW,he,Q,S,V,W,X,Y,e5⟩:=C;obtain rfl:=he.symm;have I:=U _ e5;replace I:=(((((I.fR (Q.keep (al _ _) (ay _))).fR (S.keep (al _ _) (ay _))).fR (V.keep (al _ _) (ay _))).fR (W.keep (al _ _) (ay _))).fR (X.keep (al _ _) (ay _))).fR (Y.keep (al _ _) (ay _));refine gE [6,7,8] I fun a I=>?_;refine es 10 I fun w I=>?_;refine gE [11] I fun a I=>?_;refine eD ?_;exact⟨_,_,_,_,_,_,_,_,_,_,_,_,_,_,_,_,_,_,_,_,_,_,_,I.mt [7,8,9,0,1,2,3,4,5,6] [10,7,12,13,5,4,3,2,1,0,14,15,16],B⟩
     rintro a w ⟨e3,b0,b2,bs,K,bt,c1,c2,c3,c4,av,a2,cl,a3,cs,a4,cv,a5,d1,a9,d2,ab,d3,I,B⟩;unfold qC at B;refine am I fun a I=>?_;rcases cd B with⟨ih,B⟩|⟨ih,B⟩
     ·refine am I fun a I=>?_;refine aC ?_;refine dr [(2,.blk (some m)),(8,.blk (some av))] I fun w hQ I=>?_;refine dq 0 I (l:=[.blk (some m)]) (v:=.agg #[a2,aj K,a3,a4,a5,a9,ab]) (dm I rfl uL 9 rfl (gA I 9 rfl rfl 0 rfl rfl (by decide) bO) (us:=[a2,aj K,a3,a4,a5,a9,ab]) rfl rfl (fun h=>by cases h)) fun a I=>?_;refine gE [1] I fun a I=>?_;obtain⟨hl,hs,B⟩:=bd B;refine e1 2 (cN I oh rfl rfl 0 rfl (bL _ _ (I.drop 0).dlt (bj.mk b0 b2) 30 _ _ (I.zb 0 rfl) (I.zi 0 rfl) (aF.lent (i:=0) rfl I.g1) _ hs) fun _ w C O=>?_);obtain⟨p6,he,hrow,h1,b6⟩:=C;obtain rfl:=he.symm;subst b6;refine⟨(bo hl.2 f),hrow,fun a I=>⟨jf rfl O gB,?_⟩⟩;replace I:=((((((I.fS (aF.back (i:=0) rfl h1)).zf (R:=an) 3 rfl 5 rfl).zf (R:=ac) 3 rfl 7 rfl).zf (R:=aa) 3 rfl 9 rfl).zf (R:=ad) 3 rfl 11 rfl).zf (R:=aB) 3 rfl 13 rfl).zf (R:=ad) 3 rfl 15 rfl;obtain⟨F,ht,B⟩:=bd B;refine ec 3 I RN (Ge _ _ I.dlt I.g18 vv Rx (dX.mk bs (ah.mk K bt c1) c2 c3 c4) hl.1 _ _ _ _ _ _ I.g5 I.g4 I.g3 I.g2 I.g1 I.g0 _ ht) fun _ w C a O U=>?_;obtain⟨p7,pe,pf,pk,pl,ps,he,h2,h3,h4,h5,h6,h7⟩:=C;obtain rfl:=he.symm;have I:=U [] (fun r hr=>by cases hr) pY;replace I:=(((((I.fS (h2.sub (eY _))).fS (h3.sub (eY _))).fS (h4.sub (eY _))).fS (h5.sub (eY _))).fS (h6.sub (eY _))).fS (h7.sub (eY _));refine gE [4,5,6,7] I fun a I=>?_;refine es 8 I fun w I=>?_;refine eD ?_;refine am I fun a I=>?_;obtain⟨js,hu,B⟩:=bd B;refine kc I RO (BZ _ _ I.dlt (dX.mk F.1.l (ah.mk F.1.b.r F.1.b.i F.1.b.s) F.1.s1 F.1.o F.1.y) _ _ _ _ _ _ I.g5 I.g4 I.g3 I.g2 I.g1 I.g0 _ hu) fun _ w C a O U=>?_;obtain⟨la,n6,pw,nd,he,h8,h9,ca⟩:=C;obtain rfl:=he.symm;have I:=Ar U h8 h9 ca;refine go I fun a w I=>?_;replace I:=(I.zf (R:=ac) 0 rfl 1 rfl).zg (P:=P0) (R:=aa) el [aL ac la js.i,aL (a6.int .i64) f g.L,aL an A d] ⟨⟨0,rfl⟩,⟨26,rfl⟩,⟨16,rfl⟩,trivial⟩ 0 rfl 1 rfl;exact fin
     exact fz
    refine am I fun a I=>?_;rcases cd B with⟨ii,B⟩|⟨ii,B⟩
    ·refine am I fun a I=>?_;obtain⟨e6,hy,B⟩:=bd B;refine wl rfl (cN I oh rfl rfl 0 rfl (bL _ _ (I.drop 0).dlt (bj.mk x.2.L x.2.r1) 3 _ _ (I.zb 0 rfl) (I.zi 0 rfl) (aF.lent (i:=0) rfl I.g1) _ hy) fun _ w C O=>?_);obtain⟨q0,he,hrow,ha,b9⟩:=C;obtain rfl:=he.symm;subst b9;refine⟨(bo e6.2 f),hrow,fun a I=>?_⟩;replace I:=I.fS (aF.back (i:=0) rfl ha);refine am I fun a I=>?_;rcases cd B with⟨j0,B⟩|⟨j0,B⟩
     ·refine am I fun a I=>?_;refine dr [(2,.blk (some m)),(3,.bks []),(8,.blk (some z))] I fun w hQ I=>?_;refine dq 0 I (l:=[.blk (some m)]) (v:=.agg #[aj e,t,u]) (dm I rfl f9 1 rfl (gA I 1 rfl rfl 0 rfl rfl (by decide) bO) (us:=[aj e,t,u]) rfl rfl (fun h=>by cases h)) fun a I=>?_;refine gE [1] I fun a I=>?_;obtain⟨hn,hz,B⟩:=bd B;refine e1 2 (cN I oh rfl rfl 0 rfl (bL _ _ (I.drop 0).dlt (bj.mk e6.2.L e6.2.r1) 200 _ _ (I.zb 0 rfl) (I.zi 0 rfl) (aF.lent (i:=0) rfl I.g0) _ hz) fun _ w C O=>?_);obtain⟨q1,he,hrow,hb,bb⟩:=C;obtain rfl:=he.symm;subst bb;refine⟨(bo hn.2 f),hrow,fun a I=>⟨jf rfl O gB,?_⟩⟩;replace I:=(I.fS (aF.back (i:=0) rfl hb)).fact (aL ad (.slice none 0 0) []) (aF.nil_ _ _ _);obtain⟨k1,hA,B⟩:=bd B;replace I:=I.re [] [0,1,2];refine e1 3 (ci I RP rfl rfl (Da _ _ I.zt (ah.mk e n q) hn.1 ([]) _ _ _ I.dok I.d5 I.d6 I.d0 I.d8 _ hA) fun _ w C a O U=>⟨jf rfl O we,?_⟩);obtain⟨lb,ng,q2,nl,q3,nm,he,hc,hd,hf,j1⟩:=C;obtain rfl:=he.symm;have I:=U _ j1;replace I:=((I.fR (hc.keep (al _ _) (ay _))).fR (hd.keep (al _ _) (ay _))).fR (hf.keep (al _ _) (ay _));refine gE [4,5,6,7] I fun a I=>?_;refine es 8 I fun w I=>?_;refine eD ?_;replace I:=(I.zf (R:=ac) 0 rfl 2 rfl).zg (P:=P0) (R:=aa) el [aL ac lb k1.1.i,aL (a6.int .i64) f g.L,aL an A d] ⟨⟨0,rfl⟩,⟨11,rfl⟩,⟨7,rfl⟩,trivial⟩ 0 rfl 2 rfl;exact fin
     exact fz
    refine am I fun a I=>?_;refine dr [(4,.blk (some m)),(10,.blk (some z))] I fun w hQ I=>?_;refine gE [0] I fun a I=>?_;refine dq 1 I (l:=[.blk (some m)]) (v:=.agg #[aj e,t,u]) (dm I rfl f9 1 rfl (gA I 1 rfl rfl 0 rfl rfl (by decide) bO) (us:=[aj e,t,u]) rfl rfl (fun h=>by cases h)) fun a I=>?_;refine gE [2,3] I fun a I=>?_;obtain⟨ho,hB,B⟩:=bd B;refine e1 4 (iQ I Kf rfl rfl 0 rfl (pb _ _ (I.drop 0).dlt (bj.mk x.2.L x.2.r1) d 2 _ _ _ (I.zb 0 rfl) (I.zi 0 rfl) (aF.lent (i:=0) rfl I.g1) (aF.lent (i:=0) rfl I.g0) (bH.keep I.g5 (al _ _) (fun k O=>.inl ((mZ (i:=0) rfl k).1 O))) _ hB) fun _ w C O=>?_);obtain⟨eg,dl,q4,he,⟨f5,eX,hg⟩,hrow,hh,bi⟩:=C;obtain rfl:=he.symm;subst bi;refine⟨(bo ho.2 f),[aA eg dl],hrow,gc ⟨f5,by decide⟩ eX,wX _,fun a I=>⟨jf rfl O gB,?_⟩⟩;replace I:=((I.fR (hg.keep (al _ _) (c8 (i:=0) rfl [aA eg dl] _))).fS (hh.sub (c8 (i:=0) rfl [aA eg dl] _))).zf (R:=ad) 0 rfl 1 rfl;obtain⟨k2,hC,B⟩:=bd B;refine ec 5 I Mk (n8 _ _ I.dlt I.g8 uu Rw d (ah.mk e n q) ho.1 _ _ _ _ I.g3 I.g5 I.g6 I.g0 _ hC) fun _ w C a O U=>?_;obtain⟨le,q5,no,q6,ns,he,hi,hj,hk,ca⟩:=C;obtain rfl:=he.symm;have I:=Ar U hj hk ca;replace I:=I.fS (hi.sub (eY _));refine gE [6,7,8,9] I fun a I=>?_;refine es 10 I fun w I=>?_;refine eD ?_;replace I:=I.zg (P:=P0) (R:=aa) el [aL ac le k2.1.i,aL (a6.int .i64) f g.L,aL an A d] ⟨⟨0,rfl⟩,⟨10,rfl⟩,⟨6,rfl⟩,trivial⟩ 0 rfl 2 rfl;exact fin
   rintro a w ⟨e0,e2,ch,ak,ao,c5,c9,I,B⟩;unfold dY at B;exact fz
  refine am I fun a I=>?_;cases B
  have hr:=hf1 _ rfl;subst hr;have B:qB e n q G H=some y:=hMo1;exact fin
 rintro a w ⟨cb,af,ag,dn,ds,a0,a1,I,B⟩;unfold qB at B;refine go I fun a w I=>?_;cases B
 refine aG I rfl (rC 1 I) ?_;exact⟨a0,a1,f,rfl,(aF.up ⟨.inr (aO (i:=2) rfl),trivial⟩ I.g0),(aF.up ⟨.inr (aO (i:=2) rfl),trivial⟩ I.g1),I.zb 2 rfl,(aF.up ⟨.inr (aO (i:=2) rfl),trivial⟩ I.g2),rfl,(cq.up _ ⟨.inr (aO (i:=2) rfl),trivial⟩ I.g6)⟩
def se (g:bj) (f:Int):=(sV g).bind fun c=>(iR (bj.mk c.2.L c.2.r1) 4).bind fun d=>(eP (ah.mk 0 ([]) ([])) d.1).bind fun e=>(sS (bj.mk d.2.L d.2.r1) c.1 (ah.mk e.1.r e.1.i e.1.s) f).bind fun b=>some ((c.1,(ah.mk b.1.r b.1.i b.1.s),(bj.mk b.2.L b.2.r1)))
theorem AD (l:bj) (m:Int) (j:Value) (b:Nat) (ag:L.heap[b]? = some (.cells (bo l j).toArray 84 (0,0))) (a9:¬ T b) (ak:aF (a6.int .i64) (dT T [.box b (bo l j) 84]) L j l.L) (hLv:dh (dT T [.box b (bo l j) 84]) L) (y:LU×ah×bj) (B:se l m=some y):bg aR (fun k=>k=b) 11 [pt b 0,aj m] L (fun v w'=>∃ (v3 v4 E:Value) (Ba:bI) (D:Value),v = .tuple #[v3,.agg (aU y.2.1 v4 E).toArray]/\aF an (dT T [aJ E Ba,.box b (bo y.2.2 D) 84]) w' v3 y.1/\aF ac (dT T [aJ E Ba,.box b (bo y.2.2 D) 84]) w' v4 y.2.1.i/\gG aa T L w' [aJ E Ba,.box b (bo y.2.2 D) 84] 33 E Ba y.2.1.s/\w'.heap[b]? = some (.cells (bo y.2.2 D).toArray 84 (0,0))/\aF (a6.int .i64) (dT T [aJ E Ba,.box b (bo y.2.2 D) 84]) w' D y.2.2.L/\j=D):=by
 refine tO (c:=_) Tryz.func11 rfl T 24 Tryz.ntmps11 hT rfl ag a9 fun a I=>?_;replace I:=(I.fact bH hLv).fS ak;unfold se at B;refine kA I mw fun b0 b5 a w O I=>?_;refine am I fun a I=>?_;obtain⟨d,a1,B⟩:=bd B;refine wl rfl (iQ I RF rfl rfl 1 rfl (EK _ _ (I.drop 1).dlt l _ _ (I.zb 1 rfl) (I.zi 1 rfl) (aF.lent (i:=1) rfl I.g0) _ a1) fun _ w C O=>?_);obtain⟨g,q,b7,he,⟨H,F,K⟩,hrow,M,u⟩:=C;obtain rfl:=he.symm;subst u;refine⟨(bo d.2 j),[cr g q],hrow,gc ⟨H,by decide⟩ F,wX _,fun a I=>?_⟩;replace I:=(I.fR (K.keep (al _ _) (c8 (i:=1) rfl [cr g q] _))).fS (M.sub (c8 (i:=1) rfl [cr g q] _));refine am I fun a I=>?_;refine qy I (bw (ps:=[]) I C3 mw rfl (us:=[]) trivial (ws:=[aj 0,.slice none 0 0,.slice none 0 0]) rfl) fun a I=>?_;refine am I fun a I=>?_;obtain⟨e,a2,B⟩:=bd B;refine wl rfl (iQ I Mi rfl rfl 2 rfl (pa _ _ (I.drop 2).dlt (bj.mk d.2.L d.2.r1) 4 _ _ (I.zb 2 rfl) (I.zi 2 rfl) (aF.lent (i:=2) rfl I.g0) (bH.keep I.g3 (al _ _) (fun k O=>.inl ((mZ (i:=2) rfl k).1 O))) _ a2) fun _ w C O=>?_);obtain⟨A,t,b8,he,⟨J,G,N⟩,hrow,Q,x⟩:=C;obtain rfl:=he.symm;subst x;refine⟨(bo e.2 j),[gn A t],hrow,gc ⟨J,by decide⟩ G,wX _,fun a I=>?_⟩;replace I:=((((I.fR (N.keep (al _ _) (c8 (i:=2) rfl [gn A t] _))).fS (Q.sub (c8 (i:=2) rfl [gn A t] _))).fact (aL ac (.slice none 0 0) []) (aF.nil_ _ _ _)).fact (aL aa (.slice none 0 0) []) (aF.nil_ _ _ _)).zf (R:=br) 0 rfl 3 rfl;obtain⟨n,a3,B⟩:=bd B;refine kc I Kd (nE _ _ I.dlt I.g8 (ah.mk 0 ([]) ([])) e.1 _ _ _ I.g2 I.g1 I.g0 _ a3) fun _ w C a O U=>?_;obtain⟨ab,b3,b9,b4,he,S,V,af⟩:=C;obtain rfl:=he.symm;have I:=Ar U S V af;refine kA I mw fun b2 b6 a w O I=>?_;refine go I fun a w I=>?_;replace I:=((I.zf (R:=an) 3 rfl 8 rfl).zf (R:=ac) 1 rfl 2 rfl).zg (P:=(fun k=>(fun k=>k=b) k∨L.heap.size<=k)) (R:=aa) (fun _ h=>h) [aL ac ab n.1.i,aL (a6.int .i64) j e.2.L,aL an g d.1] ⟨⟨0,rfl⟩,⟨7,rfl⟩,⟨1,rfl⟩,trivial⟩ 1 rfl 2 rfl;obtain⟨o,a4,B⟩:=bd B;refine wl rfl (cN I RD rfl rfl 2 rfl (EJ _ _ (I.drop 2).dlt (bj.mk e.2.L e.2.r1) d.1 (ah.mk n.1.r n.1.i n.1.s) m _ _ _ _ _ (I.zb 2 rfl) (I.zi 2 rfl) (aF.lent (i:=2) rfl I.g9) (aF.lent (i:=2) rfl I.g3) (aF.lent (i:=2) rfl I.g2) (aF.lent (i:=2) rfl I.g0) (bH.keep I.g14 (al _ _) (fun k O=>.inl ((mZ (i:=2) rfl k).1 O))) (fun k=>(fun k=>k=b) k∨L.heap.size<=k) (I.toPm (P:=(fun k=>(fun k=>k=b) k∨L.heap.size<=k)) 2 rfl (fun _ h=>h)) (cq.lent (i:=2) _ rfl I.g1) _ a4) fun _ w C O=>?_);obtain⟨Z,a0,bb,he,W,X,hrow,Y,z,p⟩:=C;obtain rfl:=he.symm;subst z;refine⟨(bo o.2 j),hrow,fun a I=>?_⟩;replace I:=(((I.fS (aF.back (i:=2) rfl W)).fS (aF.back (i:=2) rfl X)).fS (aF.back (i:=2) rfl Y)).fact (pS (fun k=>(fun k=>k=b) k∨L.heap.size<=k) [aL ac Z o.1.i,aL (a6.int .i64) j e.2.L,aL an g d.1] aa 33 a0 o.1.s) (cq.back (i:=2) _ rfl p);refine go I fun a w I=>?_;obtain⟨a5,I⟩:=I.thawFr (F1:=[aL (a6.int .i64) j o.2.L]) 0 rfl (fun _ h=>h) (List.forall_mem_cons.2 ⟨⟨aO (i:=1) rfl,Oq (fun _ _ _ _ _ h=>h) 1 rfl⟩,(fun f hf=>nomatch hf)⟩);cases B
 refine aG I Tryz.results11 (aw I rfl (bC I rfl 2 rfl f9 rfl (fun h=>by cases h) aI)) ?_;exact⟨g,Z,a0,a5,j,rfl,(aF.up ⟨.inr (aO (i:=0) rfl),⟨.inr (aO (i:=3) rfl),trivial⟩⟩ I.g4),(aF.up ⟨.inr (aO (i:=0) rfl),⟨.inr (aO (i:=3) rfl),trivial⟩⟩ I.g2),I.zm ⟨.inr (aO (i:=0) rfl),⟨.inr (aO (i:=3) rfl),trivial⟩⟩ 0 rfl 0 rfl 3 rfl (by decide),I.zb 3 rfl,(aF.up ⟨.inr (aO (i:=0) rfl),⟨.inr (aO (i:=3) rfl),trivial⟩⟩ I.g1),rfl⟩
end
end
section
open Go.RowKit
open Go.Lib hiding intOf
structure JO (c:bU):Prop where
 key:∃ n,n<10/\c.d=bJ n
 value:c.u.size<=8
theorem yn.le {rev rev':Int} {x:a7} (h:yn rev x) (hl:rev<=rev'):yn rev' x:=⟨h.key,h.value,h.low,by have:=h.high; omega⟩
section
variable {l:List aN} {b:ah}
theorem tZ.le {rev rev':Int} {r:au} (h:tZ l rev r) (hl:rev<=rev'):tZ l rev' r:=⟨h.key,h.value,h.reads,h.good,h.low,h.mid,by have:=h.high; omega,h.cost,h.dirty⟩
theorem dF.rise (h:dF l b) (hr:b.r+1<=1000000) {ins:List a7} (h1:ym ins) (h2:∀ x∈ins,yn (b.r+1) x):dF l (ah.mk (b.r+1) ins b.s) :=
 ⟨⟨by have:=h.rev; show 0<=b.r+1; omega,hr⟩,h2,h1,fun r hm=>(h.recs r hm).le (by show b.r<=b.r+1; omega),h.recsA⟩
theorem MM {ins:List a7} {rev:Int} (h:∀ x∈ins,yn rev x) {x:a7} (hx:yn rev x):∀ y∈vW ins x,yn rev y:=fun y hy=>by
 rcases yR.1 hy with rfl | ⟨hy,_⟩
 ·exact hx
 ·exact h y hy
theorem Ii {ins:List a7} (h1:ym ins) {rev:Int} (h2:∀ x∈ins,yn rev x):ins.length<=10:=by
 have h3:=oE (zT (f:=a7.d) h1) (m:=(List.range 10).map bJ) fun k O=>by
  obtain⟨r,hr,rfl⟩:=fG.1 O;obtain⟨n,hn,e⟩:=(h2 r hr).key;exact fG.2 ⟨n,Eb.2 hn,e.symm⟩
 simpa using h3
theorem IZ {d:List Int} {i:Int} (hd:cx d i):Ok (qW ⟨d,i⟩) fun y=>JO y.1/\cx y.2.L y.2.r1:=by
 unfold qW;refine aD (dJ hd (by omega) (by omega)) fun y ⟨y1,y2,d1⟩=>?_;obtain⟨c,hc⟩:∃ c:Nat,y.1=c:=⟨y.1.toNat,by omega⟩;rw [hc];refine aH (vp (by omega)) (aD (MX d1 (by simp) (by simp)) fun w ⟨w1,d2⟩=>ai ⟨⟨⟨c,by omega,rfl⟩,?_⟩,d2⟩);have:∀ s∈[(ByteArray.mk #[48]),(ByteArray.mk #[49]),(ByteArray.mk #[50]),(ByteArray.mk #[51]),(ByteArray.mk #[55]),(ByteArray.mk #[49,48,48]),cp,(ByteArray.mk #[120]),(ByteArray.mk #[49,54]),(ByteArray.mk #[49])],s.size<=8:=by decide
 exact this _ w1
theorem uX {d:List Int} {i:Int} (hd:cx d i) {most:Int} (h1:0<=most) (h2:most<=30):Ok (iR ⟨d,i⟩ most) fun y=>(∀ c∈y.1,JO c)/\(y.1.length:Int)<=most/\cx y.2.L y.2.r1:=by
 unfold iR;rw [qq (by omega) (by omega)];refine aD (dJ hd (by omega) (by omega)) fun y ⟨y1,y2,d1⟩=>?_;refine bz (fun (k:Nat) (s:(List bU)×Int×(List Int)×Int)=>(∀ q∈s.1,JO q)/\s.1.length=k/\s.2.1=y.1-k/\0<=s.2.1/\cx s.2.2.1 s.2.2.2) (fun r=>(∀ q∈r.1,JO q)/\(r.1.length:Int)<=most/\cx r.2.1 r.2.2) 31 ⟨fun q hq=>absurd hq cJ,rfl,by simp,y1,d1⟩ ?_ (fun r hr=>ai hr);rintro k ⟨gs,c,d,i⟩ O ⟨g1,g2,g3,g3',g4⟩;dsimp only at g1 g2 g3 g3' g4 ⊢;unfold nT;refine aE (fun hc=>?_) (fun _=>ai ⟨g1,by show (gs.length:Int)<=most; omega,g4⟩);have hc:=of_decide_eq_true hc;have hw:IntKind.i64.wrap (c-1)=c-1:=qq (by omega) (by omega);refine aD (IZ g4) fun z ⟨z1,z2⟩=>bY (du (by simp; omega)) (ai ⟨by omega,?_,by rw [cS,g2]; rfl,?_,?_,z2⟩)
 ·intro q hq;rcases cD.1 hq with hq | hq
  ·exact g1 q hq
  ·rw [bK.1 hq]; exact z1
 ·show IntKind.i64.wrap (c-1)=_;rw [hw]; omega
 ·show 0<=IntKind.i64.wrap (c-1);rw [hw]; omega
theorem IV (x y:au):Ok (pD x y) fun _=>True:=by
 unfold pD qh;refine aH rfl (aH rfl (aE (fun _=>ai trivial) (fun _=>aE (fun _=>ai trivial) (fun _=>aH (oP _ _) (ai trivial)))))
theorem KX {recs:List au} (h:recs.length<=1000):Ok (rp recs) fun o=>o.length<=recs.length:=by
 unfold rp;refine bz (fun (k:Nat) (s:List au×Int)=>s.2=k/\s.1.length=k/\k<=recs.length) (fun o=>o.length<=recs.length) recs.length ⟨rfl,rfl,bT _⟩ ?_ (fun o ho=>ai ho);rintro k ⟨out,g⟩ O ⟨rfl,hlen,_⟩;dsimp only at hlen ⊢;unfold pH;refine aE (fun hlt=>?_) (fun _=>ai (by show out.length<=_; omega));have hlt:k<recs.length:=by have:=of_decide_eq_true hlt; omega
 refine aH (bm hlt) ?_;refine bz (fun (i:Nat) (s:Int)=>s=i/\i<=out.length) (fun r=>∃ i:Nat,r=i/\i<=out.length) out.length ⟨rfl,bT _⟩ ?_ ?_
 ·rintro i _ hi ⟨rfl,_⟩;unfold pG;refine aE (fun hlt2=>?_) (fun _=>ai ⟨i,rfl,hi⟩);have hlt2:i<out.length:=by have:=of_decide_eq_true hlt2; omega
  refine aH (bm hlt2) (aD (IV _ _) fun y _=>aE (fun _=>ai ⟨hlt2,cH (by omega),hlt2⟩) (fun _=>ai ⟨i,rfl,hi⟩))
 ·rintro _ ⟨i,rfl,hi⟩;unfold pF pE;refine aH (qo hi) (aH (vA hi) ?_);have e1:(out.take i).length=i:=by rw [je]; omega
  have e2:(out.drop i).length=out.length-i:=tI;refine bY (du (by simp; omega)) (bY (du (by simp; omega)) (bY (du (by simp; omega)) (ai ⟨hlt,cH (by omega),?_,hlt⟩)));simp only [vH,cS,eS,vS];omega
theorem Lx {recs:List au} (h:recs.length<=1000):Ok (ro recs) fun _=>True:=by
 unfold ro;refine bz (fun (k:Nat) (s:Int×Int)=>s.2=k/\k<=recs.length) (fun _=>True) recs.length ⟨rfl,bT _⟩ ?_ (fun r _=>ai trivial);rintro k ⟨n,g⟩ O ⟨rfl,_⟩;dsimp only;unfold pC;refine aE (fun hlt=>?_) (fun _=>ai trivial);have hlt:k<recs.length:=by have:=of_decide_eq_true hlt; omega
 exact aH (bm hlt) (aH rfl (ai ⟨hlt,cH (by omega),hlt⟩))
end
end
section
open Go.RowKit
open Go.Lib hiding intOf
variable {ins:List a7} {most:Int} {t:dX}
def zF (l:List aN) (b:ah):Prop:=∃ H,VI l H b Ob
def AX (ins0:List a7) (rev:Int) (ins:List a7):Prop:=∀ k,nr ⟨0,ins,[]⟩ k=nr ⟨0,ins0,[]⟩ k∨(nr ⟨0,ins,[]⟩ k).a=rev+1
theorem BG (h:ym ins) {x:a7} (hx:x∈ins):nr ⟨0,ins,[]⟩ x.d=x:=by
 unfold nr;dsimp only;cases hf:ins.find? (fun y=>dt y.d x.d) with
 | none=>exact absurd (dM.2 rfl) (CD.1 hf x hx)
 | some y =>
  have h1:=List.find?_some hf;exact JS h (IM hf) hx (dM.1 h1)
theorem Dw {k:ae} (h:∀ x∈ins,x.d≠k):nr ⟨0,ins,[]⟩ k=⟨k,⟨#[]⟩,0⟩:=by
 unfold nr;dsimp only;rw [CD.2 fun x hx e=>h x hx (dM.1 e)]
theorem AX.refl (ins:List a7) (rev:Int):AX ins rev ins:=fun _=>.inl rfl
theorem AX.put {ins0:List a7} {rev:Int} (h:AX ins0 rev ins) (ha:ym ins) {x:a7} (hx:x.a=rev+1):AX ins0 rev (vW ins x):=fun k=>by
 have hp:=Gb ha x;by_cases O:k=x.d
 ·subst O;rw [BG hp (yR.2 (.inl rfl))];exact .inr hx
 ·have e:nr ⟨0,vW ins x,[]⟩ k=nr ⟨0,ins,[]⟩ k:=by
   by_cases hy:∃ y∈ins,y.d=k
   ·obtain⟨y,hy,rfl⟩:=hy;rw [BG hp (yR.2 (.inr ⟨hy,O⟩)),BG ha hy]
   ·rw [Dw fun y hm e=>hy ⟨y,hm,e⟩,Dw fun y hm e=>?_];rcases yR.1 hm with rfl | ⟨hm,_⟩
    ·exact O e.symm
    ·exact hy ⟨y,hm,e⟩
  rw [e]; exact h k
section
variable {l:List aN} {V:Nat->ByteArray} {H:Int->ae->ByteArray} {b:ah}
theorem zF.rise (hh:zF l b) (hB:dF l b) (hV:AX b.i b.r ins):zF l ⟨b.r+1,ins,b.s⟩:=by
 obtain⟨H,h⟩:=hh;have hlo:∀ r,r<=b.r->(fun k=>if r<=b.r then H r k else (nr ⟨0,ins,[]⟩ k).u)=H r:=fun r hr=>funext fun k=>if_pos hr;refine⟨fun r k=>if r<=b.r then H r k else (nr ⟨0,ins,[]⟩ k).u,?_,?_,?_,?_⟩
 ·intro k;show _=if b.r+1<=b.r then _ else _;rw [if_neg (by omega)]; rfl
 ·intro k r h1 h2;have h2:r<=b.r+1:=h2;show (if r<=b.r then H r k else _)=if b.r+1<=b.r then _ else _;rw [if_neg (show ¬ b.r+1<=b.r by omega)];by_cases hr:r<=b.r
  ·rw [if_pos hr];rcases hV k with e | e
   ·have h1:(nr ⟨0,ins,[]⟩ k).a<=r:=h1;rw [e] at h1 ⊢;have h3:=h.past k r h1 hr;rw [h3]; exact (h.now k).symm
   ·have h1:(nr ⟨0,ins,[]⟩ k).a<=r:=h1;omega
  ·rw [if_neg hr]
 ·intro m hm n r hn O;have:=(hB.recs m hm).high;rw [hlo _ this];exact h.recv m hm n r hn O
 ·intro m hm x hx hmx;have:=(hB.recs m hm).high;rw [hlo _ this];rcases h.link m hm x hx hmx with h1 | ⟨_,h2,_⟩
  ·exact .inl h1
  ·exact h2.elim
theorem zF.sub (hh:zF l b) {recs:List au} (h:∀ m∈recs,m∈b.s):zF l ⟨b.r,b.i,recs⟩:=by
 obtain⟨H,hv⟩:=hh;exact⟨H,hv.of fun m hm=>⟨m,h m hm,rfl,rfl,rfl,rfl,rfl⟩⟩
theorem qO (C:aV l) (h:dF l b) (hh:zF l b) (hr:b.r+1<=1000000) {cs:List bU} (hc:∀ c∈cs,JO c) (hn:cs.length<=32):Ok (eP b cs) fun y=>dF l y.1/\y.1.r<=b.r+1/\zF l y.1/\y.1.s=b.s:=by
 have hl:=C.high;have hcp:=wb (h.rm hl).1 (h.rm hl).2.1;have hrev:=h.rev;have hw:IntKind.i64.wrap (b.r+1)=b.r+1:=qq (by omega) (by omega);unfold eP;refine aH hcp (aH (vE h hl) ?_);rw [decide_eq_false (by omega)];simp only [dC,cond_false];refine aH (db (r:=Fl.go ()) cs.length (fun k O=>?_) ?_) ?_
 ·obtain⟨n,hn,e⟩:=(hc _ (dR O)).key;unfold f0;rw [dlt O,cond_true,bm O,ax,e,uW (by omega),ax];simp only [dC,cond_false];rw [ki,ax,cH (by omega)]; rfl
 ·unfold f0;rw [bZ]; rfl
 show Ok (fY cs b) _;unfold fY;refine aH (db (r:=Fl.go ()) cs.length (fun k O=>?_) ?_) ?_
 ·have:=(hc _ (dR O)).value;unfold fZ;rw [dlt O,cond_true,bm O,ax,decide_eq_false (by omega),cH (by omega)]; rfl
 ·unfold fZ;rw [bZ]; rfl
 show Ok (fX cs b) _;unfold fX;refine aH hcp ?_;refine bz (fun (k:Nat) (s:Bool×Int×List a7)=>s.2.1=k/\ym s.2.2/\(∀ x∈s.2.2,yn (b.r+1) x)/\k<=cs.length/\AX b.i b.r s.2.2) (fun r=>ym r.2/\(∀ x∈r.2,yn (b.r+1) x)/\AX b.i b.r r.2) cs.length ⟨rfl,h.insA,fun x hx=>(h.ins x hx).le (by omega),bT _,AX.refl _ _⟩ ?_ ?_
 ·rintro k ⟨ch,g,ins⟩ O ⟨rfl,h1,h2,_,hV⟩;dsimp only at h1 h2 hV ⊢;unfold eQ;refine aE (fun hlt=>?_) (fun _=>ai ⟨h1,h2,hV⟩);have hlt:k<cs.length:=by have:=of_decide_eq_true hlt; omega
  have hcO:=hc _ (dR hlt);refine aH (bm hlt) ?_;generalize cs[k]=c at hcO;rw [cH (by omega)];refine aH (vA (by omega)) ?_;have hd:(cs.drop (k+1)).length<=32:=by rw [tI]; omega
  have hj2:∀ ch' ins',ym ins'->(∀ x∈ins',yn (b.r+1) x)->AX b.i b.r ins'->Ok (ic (k:Int) ch' ins') fun y=>match y with
    | .go s=>k<cs.length/\(s.2.1=((k+1:Nat):Int)/\ym s.2.2/\(∀ x∈s.2.2,yn (b.r+1) x)/\k+1<=cs.length/\AX b.i b.r s.2.2)
    | .out r=>ym r.2/\(∀ x∈r.2,yn (b.r+1) x)/\AX b.i b.r r.2:=fun ch' ins' q1 q2 q3=>ai ⟨hlt,cH (by omega),q1,q2,hlt,q3⟩
  refine bz (fun (i:Nat) (s:Bool×Int)=>s.2=i/\i<=(cs.drop (k+1)).length) (fun _=>True) (cs.drop (k+1)).length ⟨rfl,bT _⟩ ?_ ?_
  ·rintro i ⟨la,q⟩ hi ⟨rfl,_⟩;dsimp only;unfold kU;refine aE (fun hlt2=>?_) (fun _=>ai trivial);have hlt2:i<(cs.drop (k+1)).length:=by have:=of_decide_eq_true hlt2; omega
   refine aH (bm hlt2) (aE (fun _=>ai ⟨hlt2,cH (by omega),hlt2⟩) (fun _=>ai ⟨hlt2,cH (by omega),hlt2⟩))
  ·intro la _;unfold lY;refine aE (fun _=>(hj2 _ _ h1 h2 hV).mono fun y hy=>by cases y <;> exact hy) (fun _=>aH (Dv (h.rm hl).2.1 _) (aE (fun _=>(hj2 _ _ h1 h2 hV).mono fun y hy=>by cases y <;> exact hy) (fun _=>?_)));have hil:=Ii h1 h2;have hput:=Jp (r:=a7.mk c.d c.u (b.r+1)) h1 (by unfold Rm; omega) (u:=b) hw (k:Int);have hput2:((loop (fun s:(List a7)×Bool×Int=>fC b ins c s.1 s.2.1 s.2.2) (([]:List a7),false,0)).bind fun q=>ez b (k:Int) c q.1 q.2)=ey (k:Int) (vW ins (a7.mk c.d c.u (b.r+1))):=hput;rw [hput2];unfold ey;exact (hj2 _ _ (Gb h1 _) (MM h2 ⟨hcO.key,hcO.value,by show 0<=b.r+1; omega,tg _⟩) (hV.put h1 rfl)).mono fun y hy=>by cases y <;> exact hy
 ·rintro⟨ch,ins⟩ ⟨h1,h2,hV⟩;dsimp only at h1 h2 hV ⊢;have hil:=Ii h1 h2;unfold jT;rw [hw];refine aE (fun _=>ai ⟨h,by show b.r<=b.r+1; omega,hh,rfl⟩) (fun _=>?_);rw [decide_eq_false (by omega),decide_eq_false (by omega)];exact ai ⟨h.rise hr h1 h2,tg _,hh.rise h hV,rfl⟩
theorem Lt (C:aV l) (hD:Ed l (inB b) V) (hb:dF l b) {s:az} (hs:sv l V b s) (hV:V=Vd l (H b.r)) {N:Nat} (hN:N<=90) (h:G0 l b N t) (hsv:SV l H t.b t.o):Ok (s6 vv s t) fun y=>G0 l b (N+1) y.1/\sv l V b y.2.2.2/\SV l H y.1.b y.1.o:=by
 have hl:=C.high;have hb0:=(hb.rm hl).2.1;have h1:=h.ng;have h2:=h.len;have h3:=h.ran;have up:G0 l b (N+1) t:=⟨h.rules,h.lv,h.goals,h.ng,h.fr,by omega,by omega⟩;unfold s6;refine aH (Bt C (by omega) h) (aE (fun h0=>aE (fun _=>ai ⟨up,hs,hsv⟩) (fun hg=>?_)) (fun h0=>?_))
 ·have hg0:0<t.s1.length:=by
   rcases yd t.s1.length with e | e
   ·rw [e] at hg; cases hg
   ·exact e
  have O:=h.goals _ (dR hg0);refine aH (by have:=bm hg0; exact this) (aH (by have:=vA (xs:=t.s1) (a:=1) (by omega); exact this) (aD (Jl hl h.lv.ok (by simp) O) fun y hy=>?_));have hg1:∀ k∈t.s1.drop 1,fP l k:=fun k O=>h.goals k (GT O);have hg2:(t.s1.drop 1).length<=32:=by rw [tI]; omega
  refine aE (fun hy1=>?_) (fun _=>ai ⟨⟨h.rules,h.lv,hg1,hg2,h.fr,up.len,up.ran⟩,hs,hsv⟩);obtain⟨n,hn,e⟩:=hy hy1;refine ai ⟨⟨h.rules,h.lv,hg1,hg2,?_,by show 1<=N+1; omega,up.ran⟩,hs,?_⟩
  rotate_left
  ·have he:t.o=[]:=AS (by simpa using h0);have hp:=hsv.push hl h.lv.ok n;rw [he] at hp;show SV l H t.b [bp.mk t.s1[0] false 0 [] []];rw [e];exact hp
  show ∀ f∈[bp.mk t.s1[0] false 0 [] []],GX l f;rw [e];exact G3 (fs:=[]) (fun f hf=>absurd hf cJ) hn
 ·have hs0:0<t.o.length:=by
   rcases yd t.o.length with e | e
   ·rw [e] at h0; cases h0
   ·exact e
  have hfr:Ok (mS vv s t.b t.o []) fun y=>Dj l V b t.b t.o.length y/\SV l H y.1 y.2.1:=by
   have hlast:=bA (l:=t.o) (i:=t.o.length-1) (by omega);have e:=JE (by omega) hlast;have hf:=h.fr;have hln:t.o.length<=900:=by omega
   have hsv:=hsv;rw [e] at hf hln hsv ⊢;exact Hn C hD hb0 (by rw [hV,h.lv.rev]) hs h.lv.ok hf hln hsv
  refine aD hfr fun y ⟨hy,hys⟩=>aE (fun _=>ai ⟨up,hy.sol,hsv⟩) (fun _=>?_);have hw:=hy.wk;have hln:=hy.len;refine bY (du (by omega)) (ai ⟨⟨h.rules,⟨hy.lv.ok,hy.lv.rev.trans h.lv.rev,hy.lv.ins.trans h.lv.ins⟩,h.goals,h.ng,hy.fr,by show y.2.1.length<=_; omega,?_⟩,hy.sol,hys⟩);show (t.y++y.2.2.1).length<=_;rw [cS]; omega
def O8 (l:List aN) (V:Nat->ByteArray) (H:Int->ae->ByteArray) (b:ah) (k:Nat):Int×(List aN)×Int×(List a7)×(List au)×(List ae)×(List bp)×(List ae)×(List aN)×Int×(List a7)×(List au)×(List (ae×ByteArray))×(List (ae×(List ae)))->Prop
 | (n,t1,t2,t3,t4,t5,t6,t7,g1,g2,g3,g4,g5,g6)=>n=(k:Int)/\G0 l b k (dX.mk t1 (ah.mk t2 t3 t4) t5 t6 t7)/\sv l V b (az.mk g1 (ah.mk g2 g3 g4) g5 g6)/\SV l H (ah.mk t2 t3 t4) t6
def Pa (l:List aN) (H:Int->ae->ByteArray) (b:ah):Fl (Int×(List aN)×Int×(List a7)×(List au)×(List ae)×(List bp)×(List ae)) (dX×Int×Int)->Prop
 | .go (n,t1,t2,t3,t4,t5,t6,t7)=>G0 l b 90 (dX.mk t1 (ah.mk t2 t3 t4) t5 t6 t7)/\SV l H (ah.mk t2 t3 t4) t6
 | .out y=>G0 l b 90 y.1/\SV l H y.1.b y.1.o
theorem Jt (C:aV l) (hb:dF l b) (hvi:VI l H b Ob) (h:G0 l b 0 t) (hbase:t.b=b) (hm:most<=30):Ok (uA vv t most) fun y=>G0 l b 90 y.1/\SV l H y.1.b y.1.o:=by
 have hl:=C.high;have hD:=u4 (inB b) C;have hst:t.o=[]:=AS (Nat.le_zero.1 h.len);have hru:=h.rules;have hsv:SV l H t.b t.o:=by
  rw [hst,hbase];exact⟨hvi.weak fun _ _ hp _=>hp.elim,fun f hf=>absurd hf cJ⟩
 have hV:Vd l (inB b)=Vd l (H b.r):=by rw [hvi.inB]
 unfold uA;refine aH (Bt C (by omega) h) (aE (fun _=>ai ⟨h.le (by omega),hsv⟩) (fun _=>?_));have hvalid:ri t=some true:=by
  unfold ri;rw [hru,Eh C h.lv.ok h.goals h.ng,ax,hst];rw [show ((0:Int)==0)=true from rfl,cond_true];have:jW l t.b []=some true:=by
   unfold jW;rw [lJ (r:=Fl.go ()) rfl]; rfl
  rw [this]; rfl
 refine aH hvalid ?_;simp only [dC,cond_false];refine aH (v:=az.mk t.l t.b [] []) rfl ?_;have hs:sv l (Vd l (inB b)) b (az.mk t.l t.b [] []):=⟨hru,hbase,fun n _ v e=>(by cases e),fun c=>rfl⟩;refine bz (O8 l (Vd l (inB b)) H b) (Pa l H b) 30 ⟨rfl,h,hs,hsv⟩ ?_ ?_
 ·rintro k ⟨n,t1,t2,t3,t4,t5,t6,t7,g1,g2,g3,g4,g5,g6⟩ O ⟨rfl,q1,q2,q3⟩;dsimp only;unfold rX;refine aE (fun hlt=>?_) (fun _=>ai ⟨q1.le (by omega),q3⟩);have hlt:=of_decide_eq_true hlt;refine aD (Lt C hD hb q2 hV (by omega) q1 q3) fun y ⟨y1,y2,y3⟩=>aE (fun _=>ai ⟨q1.le (by omega),q3⟩) (fun _=>aE (fun _=>ai ⟨y1.le (by omega),y3⟩) (fun _=>?_));exact ai ⟨by omega,cH (by omega),y1,y2,y3⟩
 ·rintro (⟨n,t1,t2,t3,t4,t5,t6,t7⟩ | y) hr
  ·exact ai hr
  ·exact ai hr
theorem G8 (C:aV l) {N:Nat} (h:G0 l b N t) (hN:N<=1000) (hsv:SV l H t.b t.o):Ok (px t) fun b'=>xI l b b'/\VI l H b' Ob:=by
 have hl:=C.high;have hb:=h.lv.ok;have hlen:=h.len;unfold px;refine aH (wb (hb.rm hl).1 (hb.rm hl).2.1) ?_;refine bz (fun (k:Nat) (s:Int×List au)=>s.1=k/\dF l (ah.mk t.b.r t.b.i s.2)/\(∀ m∈s.2,m∈t.b.s)/\∀ f∈t.o.take k,ji f.d=true->∀ m∈s.2,m.d≠f.d) (fun r=>dF l (ah.mk t.b.r t.b.i r)/\(∀ m∈r,m∈t.b.s)/\∀ f∈t.o,ji f.d=true->∀ m∈r,m.d≠f.d) t.o.length ⟨rfl,hb,fun m hm=>hm,fun f hf=>absurd hf (by simp)⟩ ?_ (fun r ⟨hr,hr2,hr3⟩=>ai ⟨⟨hr,h.lv.rev,h.lv.ins⟩,(hsv.vi.of (recs:=r) fun m hm=>⟨m,hr2 m hm,rfl,rfl,rfl,rfl,rfl⟩).weak fun x hx ⟨hp1,f,hf,e⟩ _=>hr3 f hf (e▸hp1) x hx e.symm⟩);rintro k ⟨i,recs⟩ O ⟨rfl,g,g2,g3⟩;dsimp only at g g2 g3 ⊢;unfold oa;refine aE (fun hlt=>?_) (fun hlt=>ai ⟨g,g2,by rw [vI (by have:=of_decide_eq_false hlt; omega)] at g3; exact g3⟩);have hlt:k<t.o.length:=by have:=of_decide_eq_true hlt; omega
 have tk:t.o.take (k+1)=t.o.take k++[t.o[k]]:=bV (bA hlt);refine aH (bm hlt) (aH (iN _) (aE (fun hc=>?_) (fun hc=>ai ⟨hlt,cH (by omega),g,g2,?_⟩)))
 ·have hrl:recs.length<=l.length:=g.nrec;refine aH (B5 (by unfold Rm; omega) _) (ai ⟨hlt,cH (by omega),g.filter _,fun m hm=>g2 m (iC.1 hm).1,?_⟩);rw [tk];intro f hf hcf m hm;obtain⟨hm1,hm2⟩:=iC.1 hm;rcases cD.1 hf with hf | hf
  ·exact g3 f hf hcf m hm1
  ·rw [bK.1 hf];intro e;rw [dM.2 e] at hm2;cases hm2
 ·rw [tk];intro f hf hcf m hm;rcases cD.1 hf with hf | hf
  ·exact g3 f hf hcf m hm
  ·rw [bK.1 hf] at hcf ⊢;rw [hcf] at hc; cases hc
theorem I7 (C:aV l) (h:dF l b) (hh:zF l b) {budget:Int} (h1:0<=budget) (h2:budget<=1000):Ok (rj b budget []) fun y=>xI l b y.1/\zF l y.1:=by
 have hl:=C.high;have hnr:=h.nrec;unfold rj;refine aH (vE h hl) ?_;rw [decide_eq_false (by omega),decide_eq_false (by omega)];simp only [dC,cond_false];refine aH (wb (h.rm hl).1 (h.rm hl).2.1) (aD (KX (by omega)) fun o ho=>?_);refine bz (fun (k:Nat) (s:List ae×Int×List au)=>s.2.1=k/\k<=o.length/\s.1.length<=k/\(dF l (ah.mk b.r b.i s.2.2)/\∀ m∈s.2.2,m∈b.s)) (fun r=>dF l (ah.mk b.r b.i r.2)/\∀ m∈r.2,m∈b.s) o.length ⟨rfl,bT _,bT _,h,fun m hm=>hm⟩ ?_ (fun r ⟨hr,hr2⟩=>ai ⟨⟨hr,rfl,rfl⟩,hh.sub hr2⟩);rintro k ⟨gone,g,recs⟩ O ⟨rfl,_,hg,hb,hs⟩;dsimp only at hg hb hs ⊢;have hrl:recs.length<=l.length:=hb.nrec;unfold pB;refine aE (fun hlt=>?_) (fun _=>ai ⟨hb,hs⟩);have hlt:k<o.length:=by have:=of_decide_eq_true hlt; omega
 refine aH (bm hlt) (aD (Lx (by omega)) fun t _=>?_);have hj3:∀ q,Ok (jX gone (k:Int) recs o[k] q) fun y=>match y with
   | .go s=>k<o.length/\(s.2.1=((k+1:Nat):Int)/\k+1<=o.length/\s.1.length<=k+1/\(dF l (ah.mk b.r b.i s.2.2)/\∀ m∈s.2.2,m∈b.s))
   | .out r=>dF l (ah.mk b.r b.i r.2)/\∀ m∈r.2,m∈b.s:=fun q=>by
  unfold jX mf;refine aE (fun _=>aH (B5 (by unfold Rm; omega) _) (bY (du (by simp; omega)) (ai ⟨hlt,cH (by omega),hlt,by rw [cS]; simp; omega,hb.filter _,fun m hm=>hs m (iC.1 hm).1⟩))) (fun _=>ai ⟨hlt,cH (by omega),hlt,by show gone.length<=k+1; omega,hb,hs⟩)
 exact aE (fun _=>aH (uB (by unfold Rm; simp) _) ((hj3 _).mono fun y hy=>by cases y <;> exact hy)) (fun _=>(hj3 _).mono fun y hy=>by cases y <;> exact hy)
theorem Ji (C:aV l) (h:dF l b) (hh:zF l b) {d:List Int} {i:Int} (hd:cx d i) (h1:0<=most) (h2:most<=1000) (h3:b.r<=1000):Ok (sS ⟨d,i⟩ l b most) fun y=>(dF l y.1/\zF l y.1)/\y.1.r<=b.r+most/\cx y.2.L y.2.r1:=by
 unfold sS;rw [qq (by omega) (by omega)];refine aD (dJ hd (by omega) (by omega)) fun y ⟨y1,y2,d1⟩=>?_;refine bz (fun (k:Nat) (s:Int×(List Int)×Int×Int×(List a7)×(List au))=>s.1=y.1-k/\0<=s.1/\cx s.2.1 s.2.2.1/\(dF l (ah.mk s.2.2.2.1 s.2.2.2.2.1 s.2.2.2.2.2)/\zF l (ah.mk s.2.2.2.1 s.2.2.2.2.1 s.2.2.2.2.2))/\s.2.2.2.1<=b.r+k) (fun r=>(dF l (ah.mk r.1 r.2.1 r.2.2.1)/\zF l (ah.mk r.1 r.2.1 r.2.2.1))/\r.1<=b.r+most/\cx r.2.2.2.1 r.2.2.2.2) 2000 ⟨by simp,y1,d1,⟨h,hh⟩,by show b.r<=_; simp⟩ ?_ (fun r hr=>ai hr);rintro k ⟨c,d,i,rev,ins,recs⟩ O ⟨g1,g2,g3,⟨g4,gH⟩,g5⟩;dsimp only at g1 g2 g3 g4 gH g5 ⊢;unfold qD;refine aE (fun hc=>?_) (fun _=>ai ⟨⟨g4,gH⟩,by show rev<=_; omega,g3⟩);have hc:=of_decide_eq_true hc;have hw:IntKind.i64.wrap (c-1)=c-1:=qq (by omega) (by omega);have hj2:∀ {d i rev' ins' recs'},cx d i->(dF l (ah.mk rev' ins' recs')/\zF l (ah.mk rev' ins' recs'))->rev'<=rev+1->Ok (dY c d i rev' ins' recs') fun y'=>match y' with
   | .go s=>k<2000/\(s.1=y.1-((k+1:Nat):Int)/\0<=s.1/\cx s.2.1 s.2.2.1/\(dF l (ah.mk s.2.2.2.1 s.2.2.2.2.1 s.2.2.2.2.2)/\zF l (ah.mk s.2.2.2.1 s.2.2.2.2.1 s.2.2.2.2.2))/\s.2.2.2.1<=b.r+((k+1:Nat):Int))
   | .out r=>(dF l (ah.mk r.1 r.2.1 r.2.2.1)/\zF l (ah.mk r.1 r.2.1 r.2.2.1))/\r.1<=b.r+most/\cx r.2.2.2.1 r.2.2.2.2:=by
  intro d i rev' ins' recs' q1 q2 q3;unfold dY;rw [hw];exact ai ⟨by omega,by show c-1=_; omega,by show 0<=c-1; omega,q1,q2,by show rev'<=_; omega⟩
 have hL:∀ {d i} {b':ah},cx d i->(xI l (ah.mk rev ins recs) b'/\zF l b')->Ok (dY c d i b'.r b'.i b'.s) fun y'=>match y' with
   | .go s=>k<2000/\(s.1=y.1-((k+1:Nat):Int)/\0<=s.1/\cx s.2.1 s.2.2.1/\(dF l (ah.mk s.2.2.2.1 s.2.2.2.2.1 s.2.2.2.2.2)/\zF l (ah.mk s.2.2.2.1 s.2.2.2.2.1 s.2.2.2.2.2))/\s.2.2.2.1<=b.r+((k+1:Nat):Int))
   | .out r=>(dF l (ah.mk r.1 r.2.1 r.2.2.1)/\zF l (ah.mk r.1 r.2.1 r.2.2.1))/\r.1<=b.r+most/\cx r.2.2.2.1 r.2.2.2.2:=fun q1 q2=>hj2 q1 ⟨q2.1.ok,q2.2⟩ (by have:=q2.1.rev; rw [this]; show rev<=rev+1; omega)
 refine aD (dJ g3 (by omega) (by omega)) fun w ⟨w1,w2,d2⟩=>?_;have hj4:∀ q,Ok (jj l c rev ins recs w q) fun y'=>match y' with
   | .go s=>k<2000/\(s.1=y.1-((k+1:Nat):Int)/\0<=s.1/\cx s.2.1 s.2.2.1/\(dF l (ah.mk s.2.2.2.1 s.2.2.2.2.1 s.2.2.2.2.2)/\zF l (ah.mk s.2.2.2.1 s.2.2.2.2.1 s.2.2.2.2.2))/\s.2.2.2.1<=b.r+((k+1:Nat):Int))
   | .out r=>(dF l (ah.mk r.1 r.2.1 r.2.2.1)/\zF l (ah.mk r.1 r.2.1 r.2.2.1))/\r.1<=b.r+most/\cx r.2.2.2.1 r.2.2.2.2:=fun q=>by
  unfold jj;refine aE (fun _=>?_) (fun _=>aE (fun _=>?_) (fun _=>aE (fun _=>?_) (fun _=>?_)))
  ·refine aD (uX d2 (by omega) (by omega)) fun z ⟨z1,z2,d3⟩=>aD (qO C g4 gH (by show rev+1<=1000000; omega) z1 (by omega)) fun u ⟨u1,u2,u3,_⟩=>hj2 d3 ⟨u1,u3⟩ u2
  ·refine aD (yH C d2 (by omega) (by omega)) fun z ⟨z1,z2,d3⟩=>?_;obtain⟨t,ht,ht2,ht3⟩:=Ls C g4 z1 z2;refine aH ht ?_;unfold qC;simp only [show ((0:Int)==0)=true from rfl,cond_true];refine aD (dJ d3 (by omega) (by omega)) fun u ⟨u1,u2,d4⟩=>by
    obtain⟨H,hvi⟩:=gH;exact aD (Jt C g4 hvi ht2 ht3 (by omega)) fun t2 ⟨ht4,ht5⟩=>aD (G8 C ht4 (by omega) ht5) fun b2 ⟨hb2,hb3⟩=>hL d4 ⟨hb2,H,hb3⟩
  ·refine aD (dJ d2 (by omega) (by omega)) fun z ⟨z1,z2,d3⟩=>aE (fun _=>?_) (fun _=>hL d3 ⟨⟨g4,rfl,rfl⟩,gH⟩);exact aD (dJ d3 (by omega) (by omega)) fun u ⟨u1,u2,d4⟩=>aD (I7 C g4 gH u1 (by omega)) fun v hv=>hL d4 hv
  ·exact aD (yH C d2 (by omega) (by omega)) fun z ⟨z1,z2,d3⟩=>by
    obtain⟨H,hvi⟩:=gH;exact aD (tC C g4 hvi z1 z2) fun u hu=>hL d3 ⟨hu.lv,H,hu.vi⟩
 exact aE (fun _=>(hj4 _).mono fun y hy=>by cases y <;> exact hy) (fun _=>aE (fun _=>(hj4 _).mono fun y hy=>by cases y <;> exact hy) (fun _=>(hj4 _).mono fun y hy=>by cases y <;> exact hy))
end
theorem Fh {d:List Int} {i:Int} (hd:cx d i) (h1:0<=most) (h2:most<=900):Ok (se ⟨d,i⟩ most) fun y=>aV y.1/\(dF y.1 y.2.1/\zF y.1 y.2.1)/\y.2.1.r<=most+1/\cx y.2.2.L y.2.2.r1:=by
 unfold se;refine aD (Lh hd) fun y ⟨C,d1⟩=>aD (uX d1 (by omega) (by omega)) fun z ⟨z1,z2,d2⟩=>?_;have h0:dF y.1 (ah.mk 0 [] []):=⟨⟨by show (0:Int)<=0; omega,by show (0:Int)<=1000000; omega⟩,fun x hx=>absurd hx cJ,pY,fun x hx=>absurd hx cJ,pY⟩;have hH:zF y.1 (ah.mk 0 [] []):=⟨fun _ _=>⟨#[]⟩,fun _=>rfl,fun _ _ _ _=>rfl,fun m hm=>absurd hm cJ,fun m hm=>absurd hm cJ⟩;refine aD (qO C h0 hH (by show (0:Int)+1<=1000000; omega) z1 (by omega)) fun u ⟨u1,u2,u3,_⟩=>?_;have u2:u.1.r<=0+1:=u2;exact aD (Ji C u1 u3 d2 h1 (by omega) (by show u.1.r<=1000; omega)) fun v ⟨v1,v2,d3⟩=>ai ⟨C,v1,by have v2:v.1.r<=u.1.r+most:=v2; show v.1.r<=most+1; omega,d3⟩
end
section
abbrev xK:BitVec 64:=0x42f0e1eba9ea3693#64
def eW (c:BitVec 64):BitVec 64:=(c <<< 1) ^^^ (if c.msb=true then xK else 0#64)
def ui (c:BitVec 64) (b:Bool):BitVec 64:=(c <<< 1) ^^^ (if (c.msb != b)=true then xK else 0#64)
theorem Ay (a b:BitVec 64) (n:Nat):(a ^^^ b) <<< n=(a <<< n) ^^^ (b <<< n):=by
 apply D4;intro i hi;simp only [AO,GF];cases decide (i<64) <;> cases decide (i<n) <;> simp
theorem Ep (y w:BitVec 64) (k:Nat):eW (y ^^^ (w <<< k))=ui y (w <<< k).msb ^^^ (w <<< (k+1)):=by
 unfold eW ui;rw [Ay,BitVec.msb_xor,IG];rw [AP,AP,BitVec.xor_comm ((w <<< k) <<< 1)]
theorem yD (a b:BitVec 64):eW (a ^^^ b)=eW a ^^^ eW b:=by
 unfold eW;rw [Ay,BitVec.msb_xor];apply D4;intro i hi;generalize a <<< 1=x;generalize b <<< 1=y;cases a.msb <;> cases b.msb <;> simp only [GF,Bool.xor_false,Bool.false_xor,Bool.xor_self,Bool.xor_true,nO,if_true,if_false,GG,BitVec.getLsbD_zero]
 ·cases x.getLsbD i <;> cases y.getLsbD i <;> cases xK.getLsbD i <;> rfl
 ·cases x.getLsbD i <;> cases y.getLsbD i <;> cases xK.getLsbD i <;> rfl
 ·cases x.getLsbD i <;> cases y.getLsbD i <;> cases xK.getLsbD i <;> rfl
theorem CX {z:BitVec 64} (h:eW z=0#64):z=0#64:=by
 unfold eW at h;cases hm:z.msb with
 | true =>
  rw [hm,if_pos rfl] at h;have h0:=congrArg (fun v:BitVec 64=>v.getLsbD 0) h;simp [GF,AO] at h0;exact absurd h0 (by decide)
 | false =>
  rw [hm,if_neg (by simp),D5] at h;apply D4;intro i hi;by_cases h63:i=63
  ·subst h63;rw [LT] at hm;simpa using hm
  ·have h0:=congrArg (fun v:BitVec 64=>v.getLsbD (i+1)) h;simp [AO] at h0;have:=h0 (by omega);simpa using this
theorem En {a b:BitVec 64} (h:eW a=eW b):a=b:=by
 have h1:eW (a ^^^ b)=0#64:=by rw [yD,h,IH]
 have h2:=CX h1;exact BitVec.xor_eq_zero_iff.1 h2
def cy:Nat->BitVec 64->BitVec 64
 | 0,c=>c
 | n+1,c=>cy n (eW c)
theorem xn:∀ n a b,cy n (a ^^^ b)=cy n a ^^^ cy n b
 | 0,_,_=>rfl
 | n+1,a,b=>by show cy n (eW _)=_; rw [yD,xn n]; rfl
theorem xl:∀ n {a b},cy n a=cy n b->a=b
 | 0,_,_,h=>h
 | n+1,_,_,h=>En (xl n h)
theorem tM:∀ n m c,cy (n+m) c=cy m (cy n c)
 | 0,m,c=>by rw [oy]; rfl
 | n+1,m,c=>by rw [Nat.succ_add]; exact tM n m (eW c)
theorem xm:∀ n (z:BitVec 64),(∀ i,64-n<=i->i<64->z.getLsbD i=false)->n<=64->cy n z=z <<< n
 | 0,z,_,_=>by simp [cy]
 | n+1,z,h,hn=>by
  have hm:z.msb=false:=by rw [LT]; exact h 63 (by omega) (by omega)
  have e:eW z=z <<< 1:=by unfold eW; rw [hm,if_neg (by simp),D5]
  show cy n (eW z)=_;rw [e,xm n (z <<< 1) (fun i h1 h2=>by
   rw [AO];by_cases hi:i<1
   ·simp [hi]
   ·rw [h (i-1) (by omega) (by omega)]; simp) (by omega)]
  rw [Nat.add_comm,IG]
abbrev fQ (b:UInt8):BitVec 64:=BitVec.ofNat 64 b.toNat
def fN (c:BitVec 64):List UInt8->BitVec 64
 | []=>c
 | b::l=>fN (cy 8 (c ^^^ (fQ b <<< 56))) l
def ek:List UInt8->BitVec 64
 | []=>0#64
 | b::l=>(fQ b <<< 56) ^^^ (ek l >>> 8)
theorem Bv (b:UInt8) {i:Nat} (h:8<=i):(fQ b).getLsbD i=false:=by
 rw [BitVec.getLsbD_ofNat];have:b.toNat.testBit i=false:=CA (tY b.toNat_lt (by have:=Cz (n:=2) (by omega) h; simpa using this));simp [this]
theorem rO:∀ (l:List UInt8),l.length<=8->∀ i,i<64-8*l.length->(ek l).getLsbD i=false
 | [],_,i,_=>by simp [ek]
 | b::l,h,i,hi=>by
  rw [eS] at h hi;show ((fQ b <<< 56) ^^^ (ek l >>> 8)).getLsbD i=false;rw [GF,AO,GE];rw [rO l (by omega) (8+i) (by omega)];simp;intro _ _;omega
theorem u0:∀ (l:List UInt8) (c:BitVec 64),l.length<=8->fN c l=cy (8*l.length) (c ^^^ ek l)
 | [],c,_=>by simp [fN,ek,cy]
 | b::l,c,h=>by
  rw [eS] at h;show fN (cy 8 (c ^^^ (fQ b <<< 56))) l=_;rw [u0 l _ (by omega),eS,show 8*(l.length+1)=8+8*l.length by omega,tM];congr 1;show _=cy 8 (c ^^^ ((fQ b <<< 56) ^^^ (ek l >>> 8)));rw [<- AP,xn 8 (c ^^^ _)];congr 1;have hz:∀ i,64-8<=i->i<64->(ek l >>> 8).getLsbD i=false:=fun i h1 h2=>by
   rw [GE];exact BitVec.getLsbD_of_ge _ _ (by omega)
  rw [xm 8 _ hz (by omega)];apply D4;intro i hi;rw [AO,GE];by_cases h8:i<8
  ·rw [rO l (by omega) i (by omega)]; simp [h8]
  ·rw [show 8+(i-8)=i by omega]; simp [h8,hi]
theorem yC:∀ (a b:List UInt8),a.length=b.length->a.length<=8->ek a=ek b->a=b
 | [],[],_,_,_=>rfl
 | x::a,y::b,h,h8,e=>by
  rw [eS] at h8;rw [eS,eS] at h;have e:(fQ x <<< 56) ^^^ (ek a >>> 8)=(fQ y <<< 56) ^^^ (ek b >>> 8):=e;have hx:x=y:=by
   have:∀ i,i<8->(fQ x).getLsbD i=(fQ y).getLsbD i:=fun i hi=>by
    have h0:=congrArg (fun v:BitVec 64=>v.getLsbD (56+i)) e;simp only [GF,AO,GE] at h0;rw [BitVec.getLsbD_of_ge (ek a) _ (by omega),BitVec.getLsbD_of_ge (ek b) _ (by omega)] at h0;rw [show 56+i-56=i by omega] at h0;simpa [show 56+i<64 by omega,show ¬ 56+i<56 by omega] using h0
   have hb:fQ x=fQ y:=D4 fun i hi=>by
    rcases dZ i 8 with h | h
    ·exact this i h
    ·rw [Bv x h,Bv y h]
   have:=congrArg BitVec.toNat hb;simp only [BitVec.toNat_ofNat] at this;have h1:=x.toNat_lt; have h2:=y.toNat_lt;rw [Cy (by omega),Cy (by omega)] at this;exact UInt8.toNat_inj.1 this
  subst hx;have e2:ek a >>> 8=ek b >>> 8:=by
   have:=congrArg (fun v=>(fQ x <<< 56) ^^^ v) e;simpa [<- AP] using this
  have e3:ek a=ek b:=D4 fun i hi=>by
   rcases dZ i 8 with h9 | h9
   ·rw [rO a (by omega) i (by omega),rO b (by omega) i (by omega)]
   ·have h0:=congrArg (fun v:BitVec 64=>v.getLsbD (i-8)) e2;simp only [GE] at h0;rwa [show 8+(i-8)=i by omega] at h0
  rw [yC a b (by omega) (by omega) e3]
theorem Fw {a b:List UInt8} (h:a.length=b.length) (h8:a.length<=8) {c:BitVec 64} (e:fN c a=fN c b):a=b:=by
 rw [u0 a c h8,u0 b c (by omega),<- h] at e;have e2:=xl _ e;have e3:ek a=ek b:=by
  have:=congrArg (fun v=>c ^^^ v) e2;simpa [<- AP] using this
 exact yC a b h h8 e3
end
section
open Go.RowKit
variable {Q:Exit->Act->World->Prop} {a:Act} {o:Oper} {ops:Array Oper}
section
variable {P:Program}
theorem rY (w:World) (t t' ty e:TypeId) (size bytes:Nat) (E:IP P t e size bytes) (b o dLen dCap:Nat) (sb soff sLen sCap n:Nat) (cs:bI)
  (hn:n=Nat.min sLen dLen) (hl:cs.length=n*size) (hsrc:∀ j u,cs[j]? = some u->w.cell? ⟨sb,soff+j,none⟩=some u)
  (hc:∀ j,j<cs.length->(w.cell? ⟨b,o+j,none⟩).isSome=true) (hf:∀ j,j<cs.length->w.frozen? ⟨b,o+j,none⟩=false) (h1:∀ u∈cs,u.oneCell'=true) :
  (Builtin.copy_ #[t,t'] ty #[.slice (some ⟨b,o,none⟩) dLen dCap,.slice (some ⟨sb,soff,none⟩) sLen sCap]).run P w = .ok (goInt n) (w.setCells b o cs):=by
 obtain⟨ht,⟨i,z,hi,hz,hsize,hby,hzs⟩,hpos⟩:=E;subst hsize hn;have hfc:=run_firstCells_some (P:=P) w i.size (Nat.min sLen dLen) ⟨sb,soff,none⟩ sLen sCap cs hl (fun j u hu=>by rw [Addr.add_lit]; exact hsrc j u hu);have hst:=run_storeCells_cells (P:=P) b o cs 0 w (by simpa using hc) (by simpa using hf) h1;simp only [ox] at hst;simp [Builtin.copy_,run_underlying ht,Builtin.lenOf,sizeOf,typeInfo,hi,hfc,hst]
theorem AN (w:World) {K:Act->World->Prop} (d s:Operand) (t t':TypeId)
  (ho:o.op = .call { callee:=.builtin .copy,args:=#[d,s],argTypes:=#[t,t'] }) (v u:Value) (hd:a.eval d=v) (hs:a.eval s=u) {v':Value} {w':World}
  (hr:(Builtin.copy_ #[t,t'] o.type #[v,u]).run P w = .ok v' w') (h:K (a.put o.dst v') w'):o.wp P a w K Q:=by
 unfold Oper.wp execOp;simp only [ho,resolve,invoke,builtin,Sem.run_bind,Sem.run_pure,Result.andThen_ok,GS,vU,CH,hd,hs,hr];exact h
theorem Gz (w:World) {rest:List Oper} (hgd:o.guard=none) (d s:Operand) (t t':TypeId)
  (ho:o.op = .call { callee:=.builtin .copy,args:=#[d,s],argTypes:=#[t,t'] }) (v u:Value) (hd:a.eval d=v) (hs:a.eval s=u) {v':Value} {w':World}
  (hr:(Builtin.copy_ #[t,t'] o.type #[v,u]).run P w = .ok v' w') (h:wpList P ops Q rest (a.put o.dst v') w'):wpList P ops Q (o::rest) a w :=
 wpList_plain hgd fun _ hK=>AN w d s t t' ho v u hd hs hr (hK _ _ h)
theorem DV {w:World} {K:Act->World->Prop} {E:Prop}
  (hg:o.guard=none) (d x:Operand) (dT sT:TypeId) (hop:o.op=Op.call { callee:=Callee.builtin Builtin.copy,args:=#[d,x],argTypes:=#[dT,sT] })
  (v u:Value) (hd:a.eval d=v) (hx:a.eval x=u) {v':Value} {w':World} (hr:(Builtin.copy_ #[dT,sT] o.type #[v,u]).run P w = .ok v' w') (hK:K (a.put o.dst v') w') :
  if Region.wanted o (yielded ops a.tmps)=true then Oper.wp P o a w K Q else E:=by
 rw [if_pos (by simp [Region.wanted,hg])];exact AN w d x dT sT hop v u hd hx hr hK
theorem Cq (w:World) {rest:List Oper} (hgd:o.guard=none) (d s:Operand) (t t':TypeId)
  (ho:o.op = .call { callee:=.builtin .append,args:=#[d,s],argTypes:=#[t,t'] }) (v u:Value) (hd:a.eval d=v) (hs:a.eval s=u) {v':Value} {w':World}
  (hr:(Builtin.append_ #[t,t'] o.type #[v,u]).run P w = .ok v' w') (h:wpList P ops Q rest (a.put o.dst v') w'):wpList P ops Q (o::rest) a w :=
 wpList_plain hgd fun _ hK=>by
  unfold Oper.wp execOp;simp only [ho,resolve,invoke,builtin,Sem.run_bind,Sem.run_pure,Result.andThen_ok,GS,vU,CH,hd,hs,hr];exact hK _ _ h
end
theorem HM {T X D:bI} {cs c1 c2:Array Value} {off:Nat}
  (h0:∀ j u,T[j]? = some u->cs[off+j]? = some u)
  (hd:∀ j u,D[j]? = some u->c1[off+T.length+X.length+j]? = some u) (h1:∀ j,j<off+T.length->c1[j]? = cs[j]?)
  (hx:∀ j u,X[j]? = some u->c2[off+T.length+j]? = some u) (h2:∀ j,(j<off+T.length∨off+T.length+X.length<=j)->c2[j]? = c1[j]?) :
  ∀ j u,(T++X++D)[j]? = some u->c2[off+j]? = some u:=by
 intro j u hu;by_cases hT:j<T.length
 ·rw [CC,m4 hT] at hu;rw [h2 _ (.inl (by omega)),h1 _ (by omega)];exact h0 j u hu
 ·by_cases hX:j<T.length+X.length
  ·rw [m4 (by rw [cS]; exact hX),pQ (by omega)] at hu;have:=hx _ u hu;rwa [show off+T.length+(j-T.length)=off+j by omega] at this
  ·rw [pQ (by rw [cS]; omega),cS] at hu;have:=hd _ u hu;rw [show off+T.length+X.length+(j-(T.length+X.length))=off+j by omega] at this;rw [h2 _ (.inr (by omega))];exact this
theorem Gs {T X D:bI} {cs c1 c2:Array Value} {off:Nat}
  (h0:∀ j u,T[j]? = some u->cs[off+j]? = some u)
  (hx:∀ j u,X[j]? = some u->c1[off+T.length+j]? = some u) (h1:∀ j,(j<off+T.length∨off+T.length+X.length<=j)->c1[j]? = cs[j]?)
  (hd:∀ j u,D[j]? = some u->c2[off+T.length+X.length+j]? = some u) (h2:∀ j,j<off+T.length+X.length->c2[j]? = c1[j]?) :
  ∀ j u,(T++X++D)[j]? = some u->c2[off+j]? = some u:=by
 intro j u hu;by_cases hT:j<T.length
 ·rw [CC,m4 hT] at hu;rw [h2 _ (by omega),h1 _ (.inl (by omega))];exact h0 j u hu
 ·by_cases hX:j<T.length+X.length
  ·rw [m4 (by rw [cS]; exact hX),pQ (by omega)] at hu;have:=hx _ u hu;rw [show off+T.length+(j-T.length)=off+j by omega] at this;rw [h2 _ (by omega)];exact this
  ·rw [pQ (by rw [cS]; omega),cS] at hu;have:=hd _ u hu;rwa [show off+T.length+X.length+(j-(T.length+X.length))=off+j by omega] at this
end
section
open Go.RowKit
theorem sG:IP aR 23 33 8 96:=BB (by kernel_rfl:CY aR 23=some (33,8,96))
set_option maxHeartbeats 2000000 in
theorem Jd (cl xc:bI) (n:Nat) (v:Value) (w:World) (hown:nj w 0 33 8 v cl) (hcl:cl.length=n*8) (hxl:xc.length=8) (hx1:∀ u∈xc,u.oneCell'=true) (hn:n<=4294967296)
  (vb:Nat) (hv:w.heap[vb]? = some (.cells xc.toArray 33 (0,0))) :
  Calls aR 168 #[v,.int .i64 n,.slice (some ⟨vb,0,none⟩) 1 1] w fun e w' =>
   ∃ v',e = .returned v'/\nj w' 0 33 8 v' (cl++xc)/\w.grownBy w' v.ownBlock/\(∀ k,v'.ownBlock=some k->v.ownBlock=some k∨w.heap.size<=k):=by
 obtain⟨A,m,c,rfl,h1,hnc,hc,hat⟩:=hown.form (by omega);obtain rfl:m=n:=by omega
 unfold maxLen at hc;have hsrc:At w (some ⟨vb,0,none⟩) xc:=.inr ⟨vb,0,rfl,fun j u hu=>by rw [cell_of_row w vb _ _ _ _ hv]; simpa using hu⟩;have Hsrc:=tP hsrc;have Hown:=tP hown;have Hv:=tP hv;have Hx1:=tP hx1;clear hsrc hown hv hat hx1;have hb1:cl.length+xc.length<=35000000000*4:=by omega
 cases A with
 | none =>
  go_enter Tryz.func168,Tryz.ntmps168
  go_wp2_with (at_builtin; refine Cp _ rfl _ _ 23 rfl _ 8 96 sG 0 (.slice none m c) cl rfl Hown.out _ 1 1 xc rfl (by rw [hxl]) Hsrc.out Hx1.out (by unfold maxLen; omega) (by omega) (bT _) ?_; intro v1 w1 hown1 hg1 hat1)
  all_goals (go_ret; exact⟨v1,rfl,hown1,hg1,fun k O=>by rcases hat1 with h | h <;> rw [h] at O; exact .inl O; exact .inr (by injection O with O; omega)⟩)
 | some a =>
  obtain⟨ab,ao,asp⟩:=a
  go_enter Tryz.func168,Tryz.ntmps168
  go_wp2_with (at_builtin; refine Cp _ rfl _ _ 23 rfl _ 8 96 sG 0 (.slice (some ⟨ab,ao,asp⟩) m c) cl rfl Hown.out _ 1 1 xc rfl (by rw [hxl]) Hsrc.out Hx1.out (by unfold maxLen; omega) (by omega) (bT _) ?_; intro v1 w1 hown1 hg1 hat1)
  all_goals (go_ret; exact⟨v1,rfl,hown1,hg1,fun k O=>by rcases hat1 with h | h <;> rw [h] at O; exact .inl O; exact .inr (by injection O with O; omega)⟩)
set_option maxHeartbeats 4000000 in
set_option maxRecDepth 100000 in
theorem Hp (cl xc:bI) (n i g off c:Nat) (cs:Array Value) (fz:Nat×Nat) (w:World) (hi:i<n) (hroom:n+1<=c) (hc:c<=maxLen) (hl:n<=4294967296) (hcl:cl.length=n*8) (hxl:xc.length=8) (hx1:∀ u∈xc,u.oneCell'=true) (hc1:∀ u∈cl,u.oneCell'=true)
  (hg:w.heap[g]? = some (.cells cs 33 fz)) (hfz:fz=(0,0)∨cs.size<=fz.1) (hfit:off+c*8<=cs.size) (hcs:∀ j u,cl[j]? = some u->cs[off+j]? = some u)
  (vb:Nat) (hv:w.heap[vb]? = some (.cells xc.toArray 33 (0,0))) (hne:vb≠g) :
  Calls aR 168 #[.slice (some ⟨g,off,none⟩) n c,.int .i64 i,.slice (some ⟨vb,0,none⟩) 1 1] w fun e w' =>
   ∃ v',e = .returned v'/\nj w' 0 33 8 v' (cl.take (i*8)++xc++cl.drop (i*8))/\w.grownBy w' (some g)/\(∀ k,v'.ownBlock=some k->some g=some k∨w.heap.size<=k):=by
 have hc':=hc;unfold maxLen at hc;obtain⟨TT,hT⟩:∃ TT,TT=cl.take (i*8):=⟨_,rfl⟩;obtain⟨DD,hD⟩:∃ DD,DD=cl.drop (i*8):=⟨_,rfl⟩;have hTl:TT.length=i*8:=by rw [hT,je,hcl]; omega
 have hDl:DD.length=(n-i)*8:=by rw [hD,tI,hcl]; omega
 rw [<- hT,<- hD];have hD1:∀ u∈DD,u.oneCell'=true:=fun u hu=>hc1 u (by rw [hD] at hu; exact GT hu);have hcell:∀ o,w.cell? ⟨g,o,none⟩=cs[o]?:=fun o=>cell_of_row w g o cs _ _ hg;obtain⟨G1,hG1⟩:∃ G,G=w.drew.setCells g (off+(i+1)*8) DD:=⟨_,rfl⟩;obtain⟨c1,a1,a2,a3,a4⟩:=eH g _ fz DD (off+(i+1)*8) w.drew cs hg;obtain⟨c2,b1,b2,b3,b4⟩:=eH g _ fz xc (off+i*8) G1 c1 (by rw [hG1]; exact a1);have hv1:G1.heap[vb]? = some (.cells xc.toArray 33 (0,0)):=by rw [hG1,pO _ _ _ _ _ hne]; exact hv
 have hcp1:∀ ty dc sc,(Builtin.copy_ #[23,23] ty #[.slice (some ⟨g,off+(i+1)*8,none⟩) (n-i) dc,.slice (some ⟨g,off+i*8,none⟩) (n+1-i) sc]).run aR w.drew = .ok (goInt ((n-i:Nat):Int)) G1:=fun ty dc sc=>by
  rw [hG1];refine rY (P:=aR) w.drew _ _ ty _ 8 96 sG g (off+(i+1)*8) _ dc g (off+i*8) _ sc _ _ (by simp only [Nat.min_def]; split <;> omega) hDl ?_ ?_ ?_ hD1
  ·intro j u hu;show w.cell? _=_;rw [hcell,tf];rw [hD,tH] at hu;exact hcs _ u hu
  ·intro j hj;show (w.cell? _).isSome=true;rw [hcell,xd (by omega)]; rfl
  ·intro j hj;show w.frozen? _=false;exact AY.free ⟨fz,hg,hfz⟩ (by omega)
 have hcp2:∀ ty dc,(Builtin.copy_ #[23,23] ty #[.slice (some ⟨g,off+i*8,none⟩) (n+1-i) dc,.slice (some ⟨vb,0,none⟩) 1 1]).run aR G1 = .ok (goInt 1) (G1.setCells g (off+i*8) xc):=fun ty dc=>by
  have hg1:G1.heap[g]? = some (.cells c1 33 fz):=by rw [hG1]; exact a1
  refine rY (P:=aR) G1 _ _ ty _ 8 96 sG g (off+i*8) _ dc vb 0 1 1 1 xc (by simp only [Nat.min_def]; split <;> omega) (by rw [hxl]) ?_ ?_ ?_ hx1
  ·intro j u hu;rw [cell_of_row _ vb _ _ _ _ hv1];simpa using hu
  ·intro j hj;rw [cell_of_row _ g _ _ _ _ hg1,xd (by omega)]; rfl
  ·intro j hj;exact AY.free ⟨fz,hg1,by rw [a2]; exact hfz⟩ (by omega)
 have hov:∀ lb cb,(callFunc 204 #[.slice (some ⟨vb,0,none⟩) 1 1,.slice (some ⟨g,off+(i+1)*8,none⟩) lb cb]).run aR w = .ok (.value (.bool false)) w:=fun lb cb=>by
  rw [run_callFunc_extern Tryz.func204 (by kernel_rfl) (by kernel_rfl) (by kernel_rfl) (e:=Extern.SlicesOverlaps.overlaps #[23,23] #[4]) (by kernel_rfl),
   Lib.run_overlaps_apart w 23 4 33 Tryz.underlying23 8 (fun _=>by kernel_rfl) ⟨vb,0,none⟩ ⟨g,off+(i+1)*8,none⟩ 1 1 lb cb hne 33 33 8 cs.size
    (by simp [World.shape?,hv,hxl]) (by simp [World.shape?,hg]) (by omega) (by simp [World.frozen?,hv]) (by simp [World.frozen?,hv])]
  rfl
 have hz2:¬ ((i:Int)=(n:Int)):=by omega
 have hw1:IntKind.i64.wrap ((i:Int)+1)=(i:Int)+1:=IntWalk.i64_in _ (by omega);have hb1:(0:Int)<=(i:Int)+1:=by omega
 have htn:((i:Int)+1).toNat=i+1:=by omega
 have hb2:¬ (c=i+1):=by omega
 have hb3:(i:Int)<=(n:Int)+1:=by omega
 have hb4:¬ (c=i):=by omega
 have hin:i<=n:=by omega
 have HT:=tP hT;have HD:=tP hD;have Hg:=tP hg;have Hv:=tP hv;have Hv1:=tP hv1;have HTl:=tP hTl;have HDl:=tP hDl;have HG1:=tP hG1;have Ha1:=tP a1;have Hb1:=tP b1;have Hc:=tP hcs;have Ha:=tP a4;have Hb:=tP b4;have Ha3:=tP a3;have Hb3:=tP b3;have Ha2:=tP a2;have Hb2:=tP b2;have Hcl:=tP hcl;have Hxl:=tP hxl;have Hfz:=tP hfz;clear hT hD hg hv hv1 hTl hDl hG1 a1 b1 hcs a4 b4 a3 b3 hcell a2 b2 hcl hxl hfz hx1 hc1 hD1
 go_enter Tryz.func168,Tryz.ntmps168
 go_wp2_with (simp only [hov])
 go_region_law (refine DV rfl _ _ 23 23 rfl _ _ (by simp [Act.eval,Act.put]) (by simp [Act.eval,Act.put]) (hcp1 _ _ _) ?_)
 go_wp2_with (at_builtin; refine Gz _ rfl _ _ 23 23 rfl _ _ rfl rfl (hcp2 _ _) ?_)
 go_ret
 have eT:=HTl.out;have eD:=HDl.out;have eX:=Hxl.out;refine⟨_,rfl,.inr ⟨g,off,n+1,c,c2,rfl,?_,bT _,⟨fz,Hb1.out,by rw [Hb2.out,Ha2.out]; exact Hfz.out⟩,hroom,hc',by rw [Hb2.out,Ha2.out]; exact hfit,?_⟩,?_,fun k O=>.inl O⟩
 ·rw [cS,cS,eT,eD,eX]; omega
 ·refine HM (cs:=cs) (c1:=c1) (fun j u hu=>?_) (fun j u hu=>?_) (fun j hj=>?_) (fun j u hu=>?_) (fun j hj=>?_)
  ·rw [HT.out,rL] at hu;split at hu
   ·exact Hc.out j u hu
   ·cases hu
  ·have:=Ha.out (by omega) j u hu;rwa [show off+(i+1)*8+j=off+TT.length+xc.length+j by rw [eT,eX]; omega] at this
  ·exact Ha3.out j (.inl (by rw [eT] at hj; omega))
  ·have:=Hb.out (by rw [eX,Ha2.out]; omega) j u hu;rwa [<- eT] at this
  ·refine Hb3.out j ?_;rw [eT,eX] at hj;rw [eX];omega
 ·have e1:=mn w.drew g (off+(i+1)*8) DD;have e2:=mn G1 g (off+i*8) xc;rw [<- HG1.out] at e1;exact World.grownBy.trans (a:=w) (b:=G1) ⟨e1.os,e1.tape,e1.output,e1.size,e1.block⟩ e2
set_option maxHeartbeats 4000000 in
set_option maxRecDepth 100000 in
theorem Ho (cl xc:bI) (n i g off c:Nat) (cs:Array Value) (fz:Nat×Nat) (w:World) (hi:i<n) (hnc:n<=c) (hroom:c<n+1) (hc:c<=maxLen) (hl:n<=4294967296) (hcl:cl.length=n*8) (hxl:xc.length=8) (hx1:∀ u∈xc,u.oneCell'=true) (hc1:∀ u∈cl,u.oneCell'=true)
  (hg:w.heap[g]? = some (.cells cs 33 fz)) (hfit:off+c*8<=cs.size) (hcs:∀ j u,cl[j]? = some u->cs[off+j]? = some u)
  (vb:Nat) (hv:w.heap[vb]? = some (.cells xc.toArray 33 (0,0))) :
  Calls aR 168 #[.slice (some ⟨g,off,none⟩) n c,.int .i64 i,.slice (some ⟨vb,0,none⟩) 1 1] w fun e w' =>
   ∃ v',e = .returned v'/\nj w' 0 33 8 v' (cl.take (i*8)++xc++cl.drop (i*8))/\w.grownBy w' (some g)/\(∀ k,v'.ownBlock=some k->some g=some k∨w.heap.size<=k):=by
 have hc':=hc;unfold maxLen at hc;obtain⟨TT,hT⟩:∃ TT,TT=cl.take (i*8):=⟨_,rfl⟩;obtain⟨DD,hD⟩:∃ DD,DD=cl.drop (i*8):=⟨_,rfl⟩;have hTl:TT.length=i*8:=by rw [hT,je,hcl]; omega
 have hDl:DD.length=(n-i)*8:=by rw [hD,tI,hcl]; omega
 rw [<- hT,<- hD];have hD1:∀ u∈DD,u.oneCell'=true:=fun u hu=>hc1 u (by rw [hD] at hu; exact GT hu);have hcell:∀ o,w.cell? ⟨g,o,none⟩=cs[o]?:=fun o=>cell_of_row w g o cs _ _ hg;have hgl:g<w.heap.size:=(Ao.1 hg).1;have hvl:vb<w.heap.size:=(Ao.1 hv).1;obtain⟨_,⟨i0,z,hi0,hz0,hsize,hby,hzs⟩,_⟩:=sG;have hold:(Builtin.firstCells i0.size i (.slice (some ⟨g,off,none⟩) i c)).run aR w.drew = .ok TT.toArray w.drew:=by
  rw [hsize];exact run_firstCells_some w.drew 8 i ⟨g,off,none⟩ i c _ hTl (fun j u hu=>by
   rw [Addr.add_lit];show w.cell? _=_;rw [hcell];rw [hT,rL] at hu;split at hu
   ·exact hcs j u hu
   ·cases hu)
 have O:i+(n+1-i)=n+1:=by omega
 obtain⟨G,hG⟩:∃ G,G=grownCap w (n+1) c 33:=⟨_,rfl⟩;obtain⟨ROW,hROW⟩:∃ ROW:Array Value,ROW=TT.toArray++Builtin.zeroCells z.cells (n+1-i)++Builtin.zeroCells z.cells (G-(n+1)):=⟨_,rfl⟩;have hGn:n+1<=G:=by rw [hG]; exact grownCap_ge w _ _ _
 have hG63:G<=maxLen:=by rw [hG]; exact grownCap_le_maxLen w _ _ _ (by unfold maxLen; omega)
 have hRl:ROW.size=G*8:=by
  rw [hROW];simp only [Array.size_append,Cw,size_zeroCells,hzs,hTl];omega
 have hrz:∀ ty,(Builtin.append_ #[23,3] ty #[.slice (some ⟨g,off,none⟩) i c,.int .i64 ((n:Int)+1-(i:Int))]).run aR w =
   .ok (.slice (some ⟨w.heap.size,0,none⟩) (n+1) G) (w.drew.alloc (.cells ROW 33)):=fun ty=>by
  have h:=Lib.run_append_grow_zeros w 23 3 ty 33 i0 z .i64 .i64 Tryz.underlying23 Tryz.underlying3 hi0 hz0 (some ⟨g,off,none⟩) i c _ hold (n+1-i) (by omega) (by omega) (by omega) (by omega) (by rw [hby]; omega) (by rw [hby,O]; exact growslice_fits hroom (by omega));rw [O,<- hG,<- hROW] at h;rw [show (n:Int)+1-(i:Int)=((n+1-i:Nat):Int) by omega];exact h
 obtain⟨W1,hW1⟩:∃ W1,W1=w.drew.alloc (.cells ROW 33):=⟨_,rfl⟩;have hW1g:W1.heap[w.heap.size]? = some (.cells ROW 33 (0,0)):=by rw [hW1]; exact heap_alloc_new w.drew _
 have hW1o:∀ k,k<w.heap.size->W1.heap[k]? = w.heap[k]?:=fun k O=>by rw [hW1]; exact Below.heap_alloc w.drew _ k O
 rw [<- hW1] at hrz;have hcpA:∀ ty dc,(Builtin.copy_ #[23,23] ty #[.slice (some ⟨w.heap.size,i*8,none⟩) (n+1-i) dc,.slice (some ⟨vb,0,none⟩) 1 1]).run aR W1 = .ok (goInt 1) (W1.setCells w.heap.size (i*8) xc):=fun ty dc=>by
  refine rY (P:=aR) W1 _ _ ty _ 8 96 sG w.heap.size (i*8) _ dc vb 0 1 1 1 xc (by simp only [Nat.min_def]; split <;> omega) (by rw [hxl]) ?_ ?_ ?_ hx1
  ·intro j u hu;rw [cell_of_row _ vb _ _ _ _ ((hW1o vb hvl).trans hv)];simpa using hu
  ·intro j hj;rw [cell_of_row _ _ _ _ _ _ hW1g,xd (by omega)]; rfl
  ·intro j hj;simp [World.frozen?,hW1g]
 obtain⟨c1,a1,a2,a3,a4⟩:=eH w.heap.size _ (0,0) xc (i*8) W1 ROW hW1g;obtain⟨W2,hW2⟩:∃ W2,W2=W1.setCells w.heap.size (i*8) xc:=⟨_,rfl⟩;rw [<- hW2] at a1 hcpA;have hcpB:∀ ty dc sc,(Builtin.copy_ #[23,23] ty #[.slice (some ⟨w.heap.size,(i+1)*8,none⟩) (n-i) dc,.slice (some ⟨g,off+i*8,none⟩) (n-i) sc]).run aR W2.drew = .ok (goInt ((n-i:Nat):Int)) (W2.drew.setCells w.heap.size ((i+1)*8) DD):=fun ty dc sc=>by
  refine rY (P:=aR) W2.drew _ _ ty _ 8 96 sG w.heap.size ((i+1)*8) _ dc g (off+i*8) _ sc _ _ (by simp only [Nat.min_def]; split <;> omega) hDl ?_ ?_ ?_ hD1
  ·intro j u hu;show W2.cell? _=_;rw [hW2,World.cell?_of_block (a:=⟨g,_,none⟩) (pO _ _ _ W1 g (by omega)),World.cell?_of_block (a:=⟨g,_,none⟩) (hW1o g hgl),hcell,tf];rw [hD,tH] at hu;exact hcs _ u hu
  ·intro j hj;show (W2.cell? _).isSome=true;rw [cell_of_row _ _ _ _ _ _ a1,xd (by omega)]; rfl
  ·intro j hj;show W2.frozen? _=false;simp [World.frozen?,a1]
 obtain⟨c2,b1,b2,b3,b4⟩:=eH w.heap.size _ (0,0) DD ((i+1)*8) W2.drew c1 a1;have hz2:¬ ((i:Int)=(n:Int)):=by omega
 have hz3:(c:Int)<(n:Int)+1:=by omega
 have hw1:IntKind.i64.wrap ((i:Int)+1)=(i:Int)+1:=IntWalk.i64_in _ (by omega);have hb1:(0:Int)<=(i:Int)+1:=by omega
 have htn:((i:Int)+1).toNat=i+1:=by omega
 have hb3:(i:Int)<=(n:Int)+1:=by omega
 have hb4:¬ (c=i):=by omega
 have hin:i<=n:=by omega
 have hGi:¬ (G=i):=by omega
 have hGim:¬ (G=i+1):=by omega
 have hG63':=hG63;unfold maxLen at hG63;have HT:=tP hT;have HD:=tP hD;have HTl:=tP hTl;have HDl:=tP hDl;have Hb1:=tP b1;have Hc:=tP hcs;have Ha:=tP a4;have Hb:=tP b4;have Ha3:=tP a3;have Hb3:=tP b3;have Ha2:=tP a2;have Hb2:=tP b2;have HR:=tP hRl;have HROW:=tP hROW;have HW1:=tP hW1;have HW2:=tP hW2;have Hxl:=tP hxl;clear hT hD hg hv hTl hDl a1 b1 hcs a4 b4 a3 b3 hcell a2 b2 hRl hROW hW1 hW2 hG hold O hW1g hW1o hi0 hz0 hsize hby hzs hcl hxl hx1 hc1 hD1
 go_enter Tryz.func168,Tryz.ntmps168
 go_wp2_with (first
  | (at_builtin; refine Cq _ rfl _ _ _ _ rfl _ _ rfl rfl (hrz _) ?_)
  | (at_builtin; refine Gz _ rfl _ _ 23 23 rfl _ _ rfl rfl (hcpA _ _) ?_))
 go_region_law (refine DV rfl _ _ 23 23 rfl _ _ (by simp [Act.eval,Act.put]) (by simp [Act.eval,Act.put]) (hcpB _ _ _) ?_)
 go_wp2
 go_ret
 have eT:=HTl.out;have eD:=HDl.out;have eX:=Hxl.out;refine⟨.slice (some ⟨w.heap.size,0,none⟩) (n+1) G,rfl,.inr ⟨w.heap.size,0,n+1,G,c2,rfl,?_,bT _,AY.of Hb1.out,hGn,hG63',by rw [Hb2.out,Ha2.out,HR.out]; omega,?_⟩,?_,fun k O=>.inr (pP (bM O))⟩
 ·rw [cS,cS,eT,eD,eX]; omega
 ·refine Gs (cs:=ROW) (c1:=c1) (fun j u hu=>?_) (fun j u hu=>?_) (fun j hj=>?_) (fun j u hu=>?_) (fun j hj=>?_)
  ·have hj:=(bS.1 hu).1;rw [HROW.out,oy,Array.append_assoc,OZ (by simpa using hj)];simpa using hu
  ·have:=Ha.out (by rw [eX,HR.out]; omega) j u hu;rwa [oy,eT]
  ·refine Ha3.out j ?_;rw [eT,eX] at hj;rw [eX];omega
  ·have:=Hb.out (by rw [eD,Ha2.out,HR.out]; omega) j u hu;rwa [show (i+1)*8+j=0+TT.length+xc.length+j by rw [eT,eX]; omega] at this
  ·exact Hb3.out j (.inl (by rw [eT,eX] at hj; omega))
 ·have e0:w.grownBy W1 (some g):=by rw [HW1.out]; exact⟨rfl,rfl,rfl,by simp,fun k O _=>Below.heap_alloc w.drew _ k O⟩
  have e1:=mn W1 w.heap.size (i*8) xc;have e2:=mn W2.drew w.heap.size ((i+1)*8) DD;rw [<- HW2.out] at e1;refine⟨?_,?_,?_,?_,?_⟩
  ·exact e2.os.trans (e1.os.trans e0.os)
  ·exact e2.tape.trans (e1.tape.trans e0.tape)
  ·exact e2.output.trans (e1.output.trans e0.output)
  ·exact cC e0.size (cC e1.size e2.size)
  ·intro k O hne;have hk1:=tY O e0.size;have hk2:=tY hk1 e1.size;have hne':some k≠some w.heap.size:=fun e=>by injection e; omega
   exact (e2.block k hk2 hne').trans ((e1.block k hk1 hne').trans (e0.block k O hne))
theorem Jc (cl xc:bI) (n:Nat) (v:Value) (i:Nat) (w:World) (hown:nj w 0 33 8 v cl) (hcl:cl.length=n*8) (hxl:xc.length=8) (hx1:∀ u∈xc,u.oneCell'=true) (hc1:∀ u∈cl,u.oneCell'=true) (hi:i<=n) (hl:n<=4294967296)
  (vb:Nat) (hv:w.heap[vb]? = some (.cells xc.toArray 33 (0,0))) (hne:v.ownBlock≠some vb) :
  Calls aR 168 #[v,.int .i64 i,.slice (some ⟨vb,0,none⟩) 1 1] w fun e w' =>
   ∃ v',e = .returned v'/\nj w' 0 33 8 v' (cl.take (i*8)++xc++cl.drop (i*8))/\w.grownBy w' v.ownBlock/\(∀ k,v'.ownBlock=some k->v.ownBlock=some k∨w.heap.size<=k):=by
 rcases dZ i n with h | h
 ·have ho:=hown;rcases hown with⟨rfl,h0⟩|⟨g,off,m,cap,cs,rfl,h1,hb,hg,hnc,hc,hsz,hcs⟩
  ·rw [h0] at hcl;simp at hcl;omega
  ·obtain rfl:m=n:=by omega
   obtain⟨fz,hg,hfz⟩:=hg;have hne':vb≠g:=fun e=>hne (by simp [Value.ownBlock,e]);rcases dZ cap (m+1) with h2 | h2
   ·exact Ho cl xc m i g off cap cs fz w h hnc h2 hc hl hcl hxl hx1 hc1 hg hsz hcs vb hv
   ·exact Hp cl xc m i g off cap cs fz w h h2 hc hl hcl hxl hx1 hc1 hg hfz hsz hcs vb hv hne'
 ·obtain rfl:i=n:=by omega
  have e1:cl.take (i*8)++xc++cl.drop (i*8)=cl++xc:=by
   rw [<- hcl,gz,GM,xD]
  rw [e1];exact Jd cl xc i v w hown hcl hxl hx1 hl vb hv
theorem KA {α:Type} {R:a6 α} (C:R.size=8) (T:Nat->Prop) (L:World) (v:Value) (cl:bI) (vb:Nat) (xc:bI) (xs:List α) (x:α) (i:Int) (hD:xH T L [.own v 33 R.size cl,.box vb xc 33]) (hv:bk R (dT T [.own v 33 R.size cl,.box vb xc 33]) L cl xs) (hx:R.rel (dT T [.own v 33 R.size cl,.box vb xc 33]) L xc x)
  (h0:decide (0<=i)=true) (h1:decide (i<=xs.length)=true) (hr:bP (xs.length+1)=true):bg aR (MD [.own v 33 R.size cl,.box vb xc 33]) 168 [v,.int .i64 i,.slice (some ⟨vb,0,none⟩) 1 1] L (fun v' w'=>∃ cl',bk R (dT T [.own v' 33 R.size cl']) w' cl' (xs.take i.toNat++x::xs.drop i.toNat)/\mx L w' [.own v 33 R.size cl,.box vb xc 33] [.own v' 33 R.size cl']):=by
 have h0:=of_decide_eq_true h0;have h1:=of_decide_eq_true h1;have hr:=Ca hr;obtain⟨k,rfl⟩:∃ k:Nat,i=k:=⟨i.toNat,by omega⟩;have hown:=(hD.own _ kh).1;have hbox:L.heap[vb]? = some (.cells xc.toArray 33 (0,0)):=hD.own (.box vb xc 33) (by simp);have hap:=(ow.1 hD.apart).1 (.box vb xc 33) (by simp);have hne:v.ownBlock≠some vb:=fun e=>hap vb e rfl;have hpos:0<R.size:=by rw [C]; omega
 have hx1:=hv.cell hpos;have hcl:=hv.1;rw [C] at hown hcl;refine (Jc cl xc xs.length v k L hown hcl (by rw [R.len hx,C]) (fun u hu=>R.one hx u hu) hx1 (by omega) (by omega) vb hbox hne).mono ?_;rintro e w' ⟨v',rfl,g1,g2,g3⟩;have O:=Kt.grown g2;have hkM:Kt (MD [.own v 33 R.size cl,.box vb xc 33]) L w':=O.mono fun j hj=>⟨_,kh,hj⟩;have hN:mx L w' [.own v 33 R.size cl,.box vb xc 33] [.own v' 33 R.size (cl.take (k*8)++xc++cl.drop (k*8))]:=by
  refine⟨fun r hr=>?_,fun r hr j hj=>?_,wX _⟩
  ·simp only [cI,cJ,or_false] at hr;subst hr;refine⟨?_,hpos⟩;rw [C]; exact g1
  ·simp only [cI,cJ,or_false] at hr;subst hr;rcases g3 j hj with h | h
   ·exact .inl ⟨_,kh,h⟩
   ·exact .inr h
 refine⟨v',rfl,hkM,_,?_,hN⟩;have hlo:=hv.cut (bT k) (by omega:k<=xs.length);have hhi:=hv.cut (by omega:k<=xs.length) (bX _);have e8:k*R.size=k*8:=by rw [C]
 rw [CB,D8,D8,e8] at hlo;rw [gz,vI (by rw [hv.1]; exact bX _),e8] at hhi;have h3:=(hlo.append (aP hx)).append hhi;rw [show ((k:Int)).toNat=k by omega,show xs.take k++x::xs.drop k=xs.take k++[x]++xs.drop k by simp];refine h3.keep (hkM.mono fun j hj=>.inr hj) fun j hj=>?_;rcases hj with hj | ⟨r,hr,hj⟩
 ·exact .inl (.inl hj)
 ·rcases hN.from_ r hr j hj with h | h
  ·exact .inl (.inr h)
  ·exact .inr h
end
end Go.Proofs.YtcpplgcgcbihoaaGreatDoor
section
namespace Go.Proofs
open Go.Shelf
def Tryz.sortKey_ren:Go.Shelf.Ren:=⟨fun | 6=>164 | 15=>201 | 14=>200 | 28=>239 | 29=>240 | 20=>231 | 21=>232 | 22=>233 | 23=>234 | 24=>235 | 25=>236 | 26=>237 | 27=>238 | 46=>262 | 47=>263 | 48=>264 | 49=>265 | 50=>266 | 57=>304 | n=>n,fun | 22=>31 | 24=>30 | 25=>159 | 3=>3 | 39=>187 | 0=>0 | 53=>276 | 55=>103 | 4=>4 | 46=>270 | 45=>269 | 50=>217 | 5=>5 | 9=>9 | 66=>298 | 70=>302 | 76=>350 | 77=>182 | n=>n,fun | n=>n⟩
theorem Tryz.sortKey:Go.Proofs.SlLaysF0.n6 Tryz.prog Tryz.sortKey_ren:={
 mixed:=by kernel_rfl
 f6:=⟨Tryz.f164.name,by decide,Tryz.func164.trans (congrArg some (by kernel_rfl))⟩
 f14:=⟨Tryz.f200.name,by decide,Tryz.func200.trans (congrArg some (by kernel_rfl))⟩
 f15:=Tryz.func201.trans (congrArg some (by kernel_rfl))
 f20:=⟨Tryz.f231.name,by decide,Tryz.func231.trans (congrArg some (by kernel_rfl))⟩
 f21:=⟨Tryz.f232.name,by decide,Tryz.func232.trans (congrArg some (by kernel_rfl))⟩
 f22:=⟨Tryz.f233.name,by decide,Tryz.func233.trans (congrArg some (by kernel_rfl))⟩
 f23:=⟨Tryz.f234.name,by decide,Tryz.func234.trans (congrArg some (by kernel_rfl))⟩
 f24:=⟨Tryz.f235.name,by decide,Tryz.func235.trans (congrArg some (by kernel_rfl))⟩
 f25:=⟨Tryz.f236.name,by decide,Tryz.func236.trans (congrArg some (by kernel_rfl))⟩
 f26:=⟨Tryz.f237.name,by decide,Tryz.func237.trans (congrArg some (by kernel_rfl))⟩
 f27:=⟨Tryz.f238.name,by decide,Tryz.func238.trans (congrArg some (by kernel_rfl))⟩
 f28:=Tryz.func239.trans (congrArg some (by kernel_rfl))
 f29:=Tryz.func240.trans (congrArg some (by kernel_rfl))
 f46:=⟨Tryz.f262.name,by decide,Tryz.func262.trans (congrArg some (by kernel_rfl))⟩
 f47:=Tryz.func263.trans (congrArg some (by kernel_rfl))
 f48:=Tryz.func264.trans (congrArg some (by kernel_rfl))
 f49:=⟨Tryz.f265.name,by decide,Tryz.func265.trans (congrArg some (by kernel_rfl))⟩
 f50:=⟨Tryz.f266.name,by decide,Tryz.func266.trans (congrArg some (by kernel_rfl))⟩
 f57:=⟨Tryz.f304.name,by decide,Tryz.func304.trans (congrArg some (by kernel_rfl))⟩
 t0:=Tryz.underlying0
 a0:=Tryz.isAgg0
 z0:=Tryz.sizeOf0
 v0:=Tryz.zeroValue0
 t3:=Tryz.underlying3
 a3:=Tryz.isAgg3
 z3:=Tryz.sizeOf3
 v3:=Tryz.zeroValue3
 t4:=Tryz.underlying4
 a4:=Tryz.isAgg4
 z4:=Tryz.sizeOf4
 v4:=Tryz.zeroValue4
 t5:=Tryz.underlying5
 a5:=Tryz.isAgg5
 z5:=Tryz.sizeOf5
 v5:=Tryz.zeroValue5
 t9:=Tryz.underlying9
 a9:=Tryz.isAgg9
 z9:=Tryz.sizeOf9
 v9:=Tryz.zeroValue9
 t22:=Tryz.underlying31
 a22:=Tryz.isAgg31
 z22:=Tryz.sizeOf31
 v22:=Tryz.zeroValue31
 t25:=Tryz.underlying159
 a25:=Tryz.isAgg159
 z25:=Tryz.sizeOf159
 v25:=Tryz.zeroValue159
 t39:=Tryz.underlying187
 a39:=Tryz.isAgg187
 z39:=Tryz.sizeOf187
 v39:=Tryz.zeroValue187
 t45:=Tryz.underlying269
 a45:=Tryz.isAgg269
 z45:=Tryz.sizeOf269
 v45:=Tryz.zeroValue269
 t46:=Tryz.underlying270
 a46:=Tryz.isAgg270
 z46:=Tryz.sizeOf270
 v46:=Tryz.zeroValue270
 t50:=Tryz.underlying217
 a50:=Tryz.isAgg217
 z50:=Tryz.sizeOf217
 v50:=Tryz.zeroValue217
 t53:=Tryz.underlying276
 a53:=Tryz.isAgg276
 z53:=Tryz.sizeOf276
 v53:=Tryz.zeroValue276
 t55:=Tryz.underlying103
 a55:=Tryz.isAgg103
 z55:=Tryz.sizeOf103
 v55:=Tryz.zeroValue103
 t66:=Tryz.underlying298
 a66:=Tryz.isAgg298
 z66:=Tryz.sizeOf298
 v66:=Tryz.zeroValue298
 t70:=Tryz.underlying302
 a70:=Tryz.isAgg302
 z70:=Tryz.sizeOf302
 v70:=Tryz.zeroValue302
 t76:=Tryz.underlying350
 a76:=Tryz.isAgg350
 z76:=Tryz.sizeOf350
 v76:=Tryz.zeroValue350
 t77:=Tryz.underlying182
 a77:=Tryz.isAgg182
 z77:=Tryz.sizeOf182
 v77:=Tryz.zeroValue182 }
end Go.Proofs
end
namespace Go.Proofs.YtcpplgcgcbihoaaGreatDoor
section
open Go.RowKit
open Go.Lib hiding intOf
open Go.Sort (grow grow_grow alloc_eq_grow)
def Gr (w w':World):Prop:=∃ q os,w'=grow (w.drewN q) os
theorem Gr.refl (w:World):Gr w w:=⟨0,#[],by rw [Go.Sort.grow_empty]; rfl⟩
theorem Gr.trans {a b c:World} (h:Gr a b) (k:Gr b c):Gr a c:=by
 obtain⟨q,os,rfl⟩:=h;obtain⟨q2,os2,rfl⟩:=k;exact⟨q+q2,os++os2,by show grow (grow ((a.drewN q).drewN q2) os) os2=_; rw [grow_grow,World.drewN_drewN]⟩
theorem Gr.drew (w:World):Gr w w.drew:=⟨1,#[],by rw [Go.Sort.grow_empty]; rfl⟩
theorem Gr.alloc (w:World) (o:Obj):Gr w (w.alloc o):=⟨0,#[o],by rw [alloc_eq_grow]; rfl⟩
theorem Gr.cell {w w':World} (h:Gr w w') {a:Addr} {v:Value} (hc:w.cell? a=some v):w'.cell? a=some v:=by
 obtain⟨q,os,rfl⟩:=h;exact cell_grown (World.block_lt_of_cell? _ _ hc) hc q os
set_option maxHeartbeats 2000000 in
theorem Mn (b:Nat) (x y:Int) (w:World) (h0:w.cell? ⟨b,0,none⟩=some (.int .i64 x)) (h1:w.cell? ⟨b,1,none⟩=some (.int .i64 y)) :
  Calls aR 178 #[.slice (some ⟨b,0,none⟩) 2 2] w fun e w'=>e = .returned (.int .i64 (if x≠0 then x else y))/\Gr w w':=by
 go_enter Tryz.func178,Tryz.ntmps178
 go_wp2_with fail
 go_loopw [8] (fun i wr=>Gr w wr/\((i = .int .i64 0)∨(i = .int .i64 1/\Hid (x=0))∨(i = .int .i64 2/\Hid (x=0/\y=0)))) (fun i _=>2-(intOf i).toNat)
 case atStart=>exact⟨Gr.refl _,.inl rfl⟩
 case round =>
  obtain⟨hb,rfl | ⟨rfl,H⟩|⟨rfl,H⟩⟩:=hrel
  ·have d0:=hb.cell h0;by_cases hx:x=0
   ·have HX:=tP hx
    go_wp2_with fail
    exact⟨⟨hb,.inr (.inl ⟨rfl,HX⟩)⟩,by simp [intOf]⟩
   ·go_wp2_with fail
    go_ret
    exact⟨by simp [hx],hb⟩
  ·have d1:=hb.cell h1;by_cases hy:y=0
   ·have HY:Hid (x=0/\y=0):=tP ⟨H.out,hy⟩
    go_wp2_with fail
    exact⟨⟨hb,.inr (.inr ⟨rfl,HY⟩)⟩,by simp [intOf]⟩
   ·go_wp2_with fail
    go_ret
    exact⟨by simp [H.out],hb⟩
  ·go_wp2_with fail
   all_goals (go_ret; exact⟨by simp [H.out],hb⟩)
set_option maxHeartbeats 2000000 in
theorem KF (a b:Int×ByteArray) (w:World) :
  Calls aR 124 #[.agg #[.int .i64 a.1,.string a.2],.agg #[.int .i64 b.1,.string b.2]] w fun e w'=>e = .returned (.int .i64 (if compareInt a.1 b.1≠0 then compareInt a.1 b.1 else compareBytes a.2.data.toList b.2.data.toList))/\Gr w w':=by
 have hc:=fun W'=>Tryz.cmp_Compare_int a.1 b.1 W';have hs:=fun W'=>Tryz.strings_Compare a.2 b.2 W';obtain⟨r1,h1⟩:∃ r,r=compareInt a.1 b.1:=⟨_,rfl⟩;obtain⟨r2,h2⟩:∃ r,r=compareBytes a.2.data.toList b.2.data.toList:=⟨_,rfl⟩;rw [<- h1] at hc ⊢;rw [<- h2] at hs ⊢;clear h1 h2;have ho:=fun W' b h0 h1=>Mn b r1 r2 W' h0 h1;obtain⟨rr,hrr⟩:∃ rr,rr=if r1≠0 then r1 else r2:=⟨_,rfl⟩;simp only [<- hrr] at ho ⊢;clear hrr
 go_enter Tryz.func124,Tryz.ntmps124
 go_wp2_with fail
 have hg0:Gr w ((w.alloc (.cells #[.int .i64 a.1,.string a.2] 30)).alloc (.cells #[.int .i64 b.1,.string b.2] 30)):=(Gr.alloc _ _).trans (Gr.alloc _ _);have hA0:((w.alloc (.cells #[.int .i64 a.1,.string a.2] 30)).alloc (.cells #[.int .i64 b.1,.string b.2] 30)).cell? ⟨w.heap.size,0,none⟩=some (.int .i64 a.1):=by simp
 have hA1:((w.alloc (.cells #[.int .i64 a.1,.string a.2] 30)).alloc (.cells #[.int .i64 b.1,.string b.2] 30)).cell? ⟨w.heap.size,1,none⟩=some (.string a.2):=by simp
 have hB0:((w.alloc (.cells #[.int .i64 a.1,.string a.2] 30)).alloc (.cells #[.int .i64 b.1,.string b.2] 30)).cell? ⟨w.heap.size+1,0,none⟩=some (.int .i64 b.1):=by simp
 have hB1:((w.alloc (.cells #[.int .i64 a.1,.string a.2] 30)).alloc (.cells #[.int .i64 b.1,.string b.2] 30)).cell? ⟨w.heap.size+1,1,none⟩=some (.string b.2):=by simp
 generalize ((w.alloc (.cells #[.int .i64 a.1,.string a.2] 30)).alloc (.cells #[.int .i64 b.1,.string b.2] 30))=W1 at *;generalize w.heap.size=A at *
 go_region_held3 (fun w'=>w'.cell? ⟨A,0,none⟩=some (.int .i64 a.1)/\w'.cell? ⟨A,1,none⟩=some (.string a.2)/\w'.cell? ⟨A+1,0,none⟩=some (.int .i64 b.1)/\w'.cell? ⟨A+1,1,none⟩=some (.string b.2)) (first | exact⟨hA0,hA1,hB0,hB1⟩ | exact⟨q0,q1,q2,q3⟩ | go_keep) (first
  | (go_at_call 179; refine (hc _).mono ?_; rintro e w' ⟨rfl,rfl⟩)
  | (go_at_call 152; refine (hs _).mono ?_; rintro e w' ⟨rfl,rfl⟩)
  | (go_at_call 178; refine (ho _ _ ?_ ?_).mono ?_; simp; simp; rintro e w' ⟨rfl,hg⟩; have hg2:=(Gr.alloc W1 _).trans ((Gr.drew _).trans hg); have q0:=hg2.cell hA0; have q1:=hg2.cell hA1; have q2:=hg2.cell hB0; have q3:=hg2.cell hB1))
 all_goals (go_wp2_with fail; go_ret; exact⟨rfl,hg0.trans hg2⟩)
end
section
open Go.RowKit
open Go.Lib hiding intOf
open Go.Sort (grow grow_grow alloc_eq_grow SWO HoldsK Holds flatK putRowK heap_grow_old)
instance:Inhabited ae:=⟨⟨0,⟨#[]⟩⟩⟩
def uk (k:ae):bI:=[.int .i64 k.v,.string k.x]
def tD (xs:List ae):List ae:=xs.mergeSort fun x y=>!ltOf cc y x
section
variable {α:Type} [Inhabited α] {enc:α->bI} {n:Nat}
theorem oC (O:∀ x,(enc x).length=n) (hn:0<n):∀ (xs:List α) (t:Nat),t<xs.length*n->(xs.flatMap enc)[t]? = some (enc xs[t / n]!)[t % n]!
 | [],t,h=>by simp at h
 | x::r,t,h=>by
  rw [AT];by_cases ht:t<n
  ·rw [m4 (by rw [O]; exact ht),Nat.div_eq_of_lt ht,Cy ht];have:t<(enc x).length:=by rw [O]; exact ht
   rw [bA this];simp [this]
  ·have h2:t-n<r.length*n:=by simp only [eS,fk] at h; omega
   rw [pQ (by rw [O]; omega),O,oC O hn r (t-n) h2];have e1:t / n=(t-n) / n+1:=by
    conv=>lhs; rw [show t=t-n+n by omega]
    rw [Nat.add_div_right _ hn]
   have e2:t % n=(t-n) % n:=by
    conv=>lhs; rw [show t=t-n+n by omega]
    rw [Nat.add_mod_right]
   rw [e1,e2]; simp
omit [Inhabited α] in
theorem lG (O:∀ x,(enc x).length=n) (xs:List α):(xs.flatMap enc).length=xs.length*n:=by
 induction xs with
 | nil=>simp
 | cons x r ih=>rw [AT,cS,O,ih,eS,fk]; omega
theorem I8 (O:∀ x,(enc x).length=n) (hn:0<n) (xs:List α):(flatK enc n xs.toArray).toList=xs.flatMap enc:=by
 refine IJ fun t=>?_;by_cases ht:t<xs.length*n
 ·rw [oC O hn xs t ht];have h1:=Go.Sort.get_flatK enc n xs.toArray t (by simpa using ht);have h2:t<(flatK enc n xs.toArray).size:=by simpa using ht
  rw [M7,xd h2];rw [getElem!_pos (flatK enc n xs.toArray) t h2] at h1;rw [h1]; simp
 ·rw [uQ (by simp; omega),uQ (by rw [lG O]; omega)]
theorem HJ {w:World} {g off c:Nat} {cs:Array Value} {e:TypeId} {xs ys:List α} {q:Nat} {os:Array Obj} (O:∀ x,(enc x).length=n) (hn:0<n) (hg:AY w g cs e) (hsz:off+c*n<=cs.size) (hnc:xs.length<=c) (hcs:∀ j u,(xs.flatMap enc)[j]? = some u->cs[off+j]? = some u) (hl:ys.length=xs.length) :
  ∃ cs',AY (sortWorldK enc n w g off q ys.toArray os) g cs' e/\cs'.size=cs.size/\(∀ j u,(ys.flatMap enc)[j]? = some u->cs'[off+j]? = some u)/\Kt (fun k=>k=g) w (sortWorldK enc n w g off q ys.toArray os):=by
 have hH:Holds id w g off (flatK enc n xs.toArray):=fun j hj=>by
  have hj2:j<xs.length*n:=by simpa using hj
  have hm:xs.length*n<=c*n:=kI _ hnc;have h1:=Go.Sort.get_flatK enc n xs.toArray j (by simpa using hj2);refine⟨?_,hg.free (by omega)⟩;rw [hg.cell,hcs j _ (oC O hn xs j hj2),h1]; simp
 have e1:sortWorldK enc n w g off q ys.toArray os=grow ((w.drewN q).setCells g off (ys.flatMap enc)) os:=by
  unfold sortWorldK putRowK;have:=putRow_eq_setCells id w g off (flatK enc n xs.toArray) (flatK enc n ys.toArray).toList q hH (by simp [hl]);rw [Array.toArray_toList] at this;rw [this,I8 O hn,List.map_id]
 obtain⟨fz,hg1,hfz⟩:=id hg;obtain⟨cs',c1,c2,c3,c4⟩:=eH g e fz (ys.flatMap enc) off (w.drewN q) cs hg1;have hgl:g<((w.drewN q).setCells g off (ys.flatMap enc)).heap.size:=(Ao.1 c1).1;refine⟨cs',?_,c2,fun j u hu=>c4 (by rw [lG O,hl]; have:xs.length*n<=c*n:=kI _ hnc; omega) j u hu,?_⟩
 ·rw [e1];exact⟨fz,by rw [heap_grow_old _ os hgl]; exact c1,by rw [c2]; exact hfz⟩
 ·rw [e1];have k1:Kt (fun k=>k=g) w ((w.drewN q).setCells g off (ys.flatMap enc)):=(Kt.drewN w q).no.trans (Kt.setCells _ g off _);exact k1.trans ⟨rfl,rfl,rfl,by simp,fun k O _=>heap_grow_old _ os O⟩
end
theorem Cb {T:Nat->Prop} {w:World} {cl:bI} {xs:List ae}:bk ad T w cl xs↔cl=xs.flatMap uk:=by
 have O:∀ x:ae,(uk x).length=2:=fun _=>rfl;constructor
 ·rintro⟨h1,h2⟩;refine IJ fun t=>?_;have h1':cl.length=xs.length*2:=h1;by_cases ht:t<xs.length*2
  ·rw [oC O (by omega) xs t ht];have hx:t / 2<xs.length:=by omega
   obtain⟨cs,rfl,h4⟩:=h2 (t / 2) _ (bA hx);have hm:(uk xs[t / 2])[t % 2]? = some (uk xs[t / 2]!)[t % 2]!:=by
    rw [getElem!_pos xs (t / 2) hx];have h5:t % 2<(uk xs[t / 2]).length:=by rw [O]; omega
    rw [bA h5,getElem!_pos (uk xs[t / 2]) (t % 2) h5]
   have:=h4 (t % 2) _ hm;rwa [show t / 2*ad.size+t % 2=t by show t / 2*2+t % 2=t; omega] at this
  ·rw [uQ (by omega),uQ (by rw [lG O]; omega)]
 ·rintro rfl;refine⟨lG O xs,fun k x hx=>⟨uk x,rfl,fun j u hu=>?_⟩⟩;have hkl:=(bS.1 hx).1;have hj:j<2:=by have:=(bS.1 hu).1; rw [O] at this; exact this
  show (xs.flatMap uk)[k*2+j]? = some u;rw [oC O (by omega) xs _ (by omega),show (k*2+j) / 2=k by omega,show (k*2+j) % 2=j by omega,getElem!_pos xs k hkl,(bS.1 hx).2];obtain⟨h3,h4⟩:=bS.1 hu;rw [getElem!_pos (uk x) j h3,h4]
theorem Rf:SWO (ltOf cc) where
 irrefl x:=by unfold ltOf; simp [ul]
 trans x y z h1 h2:=by
  unfold ltOf at *;simp only [decide_eq_true_eq] at *;exact lI h1 h2
 ntrans x y z h1 h2:=by
  unfold ltOf at *;simp only [decide_eq_false_iff_not] at *;exact fun h=>h2 (ny h1 h)
theorem Pj (x y:ae) (h1:ltOf cc x y=false) (h2:ltOf cc y x=false):x=y:=by
 unfold ltOf at *;simp only [decide_eq_false_iff_not] at *;rcases um x y with h | h | h
 ·exact absurd h h1
 ·exact h
 ·exact absurd h h2
theorem Ki (blk off size:Nat) (w:World):CmpLays aR 124 #[] uk 2 cc blk off size w:=fun m os dk hd x y=>by
 refine (KF (x.v,x.x) (y.v,y.x) (sortWorldK uk 2 w blk off m dk os)).mono ?_;rintro e w' ⟨rfl,hg⟩;refine⟨?_,hg⟩;congr 2;unfold cc compareInt;dsimp only;rw [tr,tr];by_cases h1:x.v<y.v
 ·simp [h1]
 ·by_cases h2:y.v<x.v <;> simp [h1,h2]
theorem uG (xs:List ae):(tD xs).length=xs.length:=by unfold tD; exact List.length_mergeSort _
theorem JA (T:Nat->Prop) (L:World) (v:Value) (cl:bI) (xs:List ae) (hD:xH T L [.own v 30 ad.size cl]) (hv:bk ad (dT T [.own v 30 ad.size cl]) L cl xs) (hr:bP xs.length=true) :
  bg aR (MD [.own v 30 ad.size cl]) 164 [v,.func (.func 124) #[] #[]] L (fun v' w'=>v' = .tuple #[]/\∃ cl',bk ad (dT T [.own v 30 ad.size cl']) w' cl' (tD xs)/\mx L w' [.own v 30 ad.size cl] [.own v 30 ad.size cl']):=by
 have O:∀ x:ae,(uk x).length=2:=fun _=>rfl;have hr:=Ca hr;have hcl:=Cb.1 hv;subst hcl;obtain⟨hown,hpos⟩:=hD.own _ kh;rcases id hown with⟨rfl,h0⟩|⟨g,off,n,c,cs,rfl,h1,hb,hg,hnc,hc,hsz,hcs⟩
 ·have hx:xs=[]:=by
   have:=lG O xs;rw [h0] at this;simp only [vS] at this;exact AS (by omega)
  subst hx;have h:=AnyF.slices_SortFunc_none Tryz.sortKey none 0 (.func (.func 124) #[] #[]) L;change Calls aR 164 _ _ _ at h;refine h.mono ?_;rintro e w' ⟨rfl,rfl⟩;refine⟨_,rfl,al _ _,rfl,[],Cb.2 (by unfold tD; simp),⟨fun r hr=>?_,fun r hr k O=>?_,Cv _ _⟩⟩
  ·simp only [cI,cJ,or_false] at hr; subst hr; exact⟨hown,hpos⟩
  ·simp only [cI,cJ,or_false] at hr; subst hr; exact .inl ⟨_,kh,O⟩
 ·have hn:n=xs.length:=by
   have h2:=lG O xs;rw [h1] at h2;have h2:n*2=xs.length*2:=h2;omega
  subst hn;have hgl:g<L.heap.size:=hg.lt;have hH:HoldsK uk 2 L g off xs.toArray:=fun j hj=>by
   have hj2:j<xs.length*2:=by simpa using hj
   have hsz2:off+c*2<=cs.size:=hsz;have h3:=Go.Sort.get_flatK uk 2 xs.toArray j (by simpa using hj2);refine⟨?_,hg.free (by omega)⟩;rw [hg.cell,hcs j _ (oC O (by omega) xs j hj2),h3]; simp
  have eg:∀ args w,(callFunc 124 args).run aR w = .ok (.enter 124 args) w:=enters_of Tryz.func124 (by kernel_rfl) rfl;have h:=AnyQ.slices_SortFunc_total Tryz.sortKey 2 Tryz.isAgg30 Tryz.sizeOf30 uk O (fun x v hv=>by simp [uk] at hv; rcases hv with rfl | rfl <;> rfl) cc Rf 124 #[] g off c xs.toArray L eg (Ki g off _ L) hH hgl (by simp; omega) Pj;change Calls aR 164 _ _ _ at h;rw [Cw] at h;refine h.mono ?_;rintro e w' ⟨rfl,q,os,rfl⟩;have hs:(xs.toArray.toList.mergeSort fun x y=>!ltOf cc y x)=tD xs:=rfl;rw [hs];obtain⟨cs',r1,r2,r3,r4⟩:=HJ (enc:=uk) (n:=2) (ys:=tD xs) (q:=q) (os:=os) O (by omega) hg hsz hnc hcs (uG xs);have hkM:Kt (MD [.own (.slice (some ⟨g,off,none⟩) xs.length c) 30 ad.size (xs.flatMap uk)]) L (sortWorldK uk 2 L g off q (tD xs).toArray os):=r4.mono fun j hj=>⟨_,kh,by rw [hj]; rfl⟩;refine⟨_,rfl,hkM,rfl,(tD xs).flatMap uk,Cb.2 rfl,⟨fun r hr=>?_,fun r hr k O=>?_,Cv _ _⟩⟩
  ·simp only [cI,cJ,or_false] at hr;subst hr;exact⟨.inr ⟨g,off,xs.length,c,cs',rfl,by rw [lG O,uG]; rfl,hb,r1,hnc,hc,by rw [r2]; exact hsz,r3⟩,hpos⟩
  ·simp only [cI,cJ,or_false] at hr; subst hr; exact .inl ⟨_,kh,O⟩
end
section
set_option maxRecDepth 100000
set_option maxHeartbeats 4000000
open Go.RowKit
variable (T:Nat->Prop) (L:World) (hT:TW T L)
include hT
noncomputable section
def rZ (c b:Int):=some ((c,b))
def mW (c:LU) (b:Int):Option (Fl (Int) (Int)):=cond (decide (b<(c.length:Int))) ((bu c b).bind fun d=>cond d.f (some (.go (IntKind.i64.wrap (b+1)))) (some (.out b))) (some (.out b))
def r5 (b:LU) (d c:Int):=(loop (fun s:Int=>mW b s) (IntKind.i64.wrap (d+1))).bind fun r=>rZ c r
def mX (c:LU) (b:Int):Option (Fl (Int) (Int)):=cond (decide ((0:Int)<b)) ((bu c (IntKind.i64.wrap (b-1))).bind fun d=>cond d.f (some (.go (IntKind.i64.wrap (b-1)))) (some (.out b))) (some (.out b))
def uH (b:LU) (c:Int):=cond (decide (c<0)) (some ((0,0))) (cond (decide ((b.length:Int)<=c)) (some ((0,0))) ((bu b c).bind fun d=>cond (!(d.f)) (some ((c,IntKind.i64.wrap (c+1)))) ((loop (fun s:Int=>mX b s) c).bind fun r=>r5 b c r)))
theorem Gm (b:LU) (f:Int) (g:Value) (E:aF an T L g b) (y:Int×Int) (B:uH b f=some y):bg aR No 228 [g,aj f] L (fun v w'=>v = .tuple #[aj y.1,aj y.2]):=by
 refine en Tryz.func228 Tryz.ntmps228 hT fun a I=>?_;replace I:=I.fS (aF.dn E);unfold uH at B;refine am I fun a I=>?_;refine aC ?_;refine io ?_;refine am I fun a I=>?_;rcases cd B with⟨t,B⟩|⟨t,B⟩
 ·refine am I fun a I=>?_;cases B
  refine aG I Tryz.results228 (aw I rfl (aw I rfl aI)) ?_;exact rfl
 refine am I fun a I=>?_;rcases cd B with⟨u,B⟩|⟨u,B⟩
 ·refine am I fun a I=>?_;cases B
  refine aG I Tryz.results228 (aw I rfl (aw I rfl aI)) ?_;exact rfl
 refine am I fun a I=>?_;refine aC ?_;refine am I fun a I=>?_;obtain⟨S,n,B⟩:=bd B;refine wl rfl (bn (R:=an) I uF nN rfl rfl 0 rfl n rfl fun F V K x a I=>?_);obtain⟨Z,rfl,o⟩:=x;replace I:=I.fS o;refine am I fun a I=>?_;rcases cd B with⟨z,B⟩|⟨z,B⟩
 ·refine am I fun a I=>?_;cases B
  refine aG I Tryz.results228 (aw I rfl (aw I rfl aI)) ?_;exact rfl
 refine am I fun a I=>?_;refine aM (J:=fun a w=>∃ (c:Int),St L No T 54 [(0,g),(6,aj c),(7,aj (IntKind.i64.wrap (f+1)))] [] [aL an g b] a w/\r5 b f c=some y) ?_ ?_
 ·refine am I fun a I=>?_;obtain⟨Y,k,hMo1⟩:=bd B;refine bF _ (fun s a w=>∃ (e:Int),e=s/\St L No T 54 [(0,g),(6,aj e),(7,aj (IntKind.i64.wrap (f+1)))] [] [aL an g b] a w) k ⟨_,rfl,I.mt [] [2]⟩ ?_;rintro s a w r ⟨e,rfl,I⟩ B hf1;have B:mX b e=some r:=B;unfold mX at B;refine aC ?_;refine io ?_;refine am I fun a I=>?_;rcases cd B with⟨i,B⟩|⟨i,B⟩
  ·refine am I fun a I=>?_;obtain⟨Q,m,B⟩:=bd B;refine wg I rfl rfl rfl i (bn (R:=an) I uF nN rfl rfl 0 rfl m rfl fun G W M A a I=>?_);obtain⟨a0,rfl,p⟩:=A;replace I:=I.fS p;exact fz
  exact fz
 rintro a w ⟨c,I,B⟩;unfold r5 at B;refine aM (J:=fun a w=>∃ (h:Int),St L No T 54 [(6,aj c),(7,aj h)] [] [] a w/\rZ c h=some y) ?_ ?_
 ·refine am I fun a I=>?_;obtain⟨Y,k,hMo1⟩:=bd B;refine bF _ (fun s a w=>∃ (d:Int),d=s/\St L No T 54 [(0,g),(6,aj c),(7,aj d)] [] [aL an g b] a w) k ⟨_,rfl,I.mt [] [0]⟩ ?_;rintro s a w r ⟨d,rfl,I⟩ B hf1;have B:mW b d=some r:=B;unfold mW at B;refine aC ?_;refine io ?_;refine am I fun a I=>?_;rcases cd B with⟨j,B⟩|⟨j,B⟩
  ·refine am I fun a I=>?_;obtain⟨P,l,B⟩:=bd B;refine wg I rfl rfl rfl j (bn (R:=an) I uF nN rfl rfl 0 rfl l rfl fun H X N D a I=>?_);obtain⟨a1,rfl,q⟩:=D;replace I:=I.fS q;exact fz
  exact fz
 rintro a w ⟨h,I,B⟩;unfold rZ at B;refine am I fun a I=>?_;cases B
 refine aG I Tryz.results228 (aw I rfl (aw I rfl aI)) ?_;exact rfl
def vD (b:Bool):=some (b)
def mr (b:Bool):=some (b)
def vC (c:LU) (g:Int) (e:Bool) (b:Int):=cond e (cond (decide ((0:Int)<=b)) (vD (decide (b<=15))) (vD false)) ((uH c g).bind fun d=>cond (decide ((0:Int)<=b)) (cond (decide (b<d.1)) (mr true) ((bu c g).bind fun h=>cond h.f (mr (decide (b<d.2))) (mr false))) (mr false))
theorem Ai (b:LU) (g:Int) (e:Bool) (k:Int) (p:Value) (o:aF an T L p b) (y:Bool) (B:vC b g e k=some y):bg aR No 194 [p,aj g,.bool e,aj k] L (fun v w'=>v = .bool y):=by
 refine en Tryz.func194 Tryz.ntmps194 hT fun a I=>?_;replace I:=I.fS (aF.dn o);unfold vC at B;refine am I fun a I=>?_;refine aC ?_;refine am I fun a I=>?_;rcases cd B with⟨l,B⟩|⟨l,B⟩
 ·refine am I fun a I=>?_;refine aM (J:=fun a w=>∃ (c:Bool),St L No T 43 [(8,.bool c)] [] [] a w/\vD c=some y) ?_ ?_
  ·exact fz
  rintro a w ⟨c,I,B⟩;unfold vD at B;exact fz
 refine am I fun a I=>?_;obtain⟨u,i,B⟩:=bd B;refine kF I Qv (Gm _ _ I.dlt b g _ I.g0 _ i) fun w a I=>?_;refine aM (J:=fun a w=>∃ (d:Bool),St L No T 43 [(8,.bool d)] [] [] a w/\mr d=some y) ?_ ?_
 ·refine am I fun a I=>?_;rcases cd B with⟨m,B⟩|⟨m,B⟩
  ·refine am I fun a I=>?_;rcases cd B with⟨f,B⟩|⟨f,B⟩
   ·exact fz
   refine am I fun a I=>?_;obtain⟨s,h,B⟩:=bd B;refine wg I rfl rfl rfl f (bn (R:=an) I uF nN rfl rfl 0 rfl h rfl fun q t r n a I=>?_);obtain⟨x,rfl,j⟩:=n;replace I:=I.fS j;exact fz
  exact fz
 rintro a w ⟨d,I,B⟩;unfold mr at B;exact fz
def kH (c:LU) (f:Int) (b:dd) (d:Bool):=cond d (some (false)) (cond (!(b.u1)) (some (b.t1==0)) ((vC c f b.b1 b.t1).bind fun e=>some (e)))
def uJ (b:LU) (d:Int) (c:dd) (e:Bool):=cond c.u1 ((bu b d).bind fun g=>cond g.f (kH b d c true) (cond e (kH b d c true) ((vC b d c.b1 c.N).bind fun h=>kH b d c (!(h))))) ((vC b d c.b1 c.N).bind fun i=>kH b d c (!(i)))
theorem Gp (b:LU) (d:Int) (c:dd) (e:Bool) (o:Value) (t:aF an T L o b) (y:Bool) (B:uJ b d c e=some y):bg aR No 154 [o,aj d,.agg (JV c).toArray,.bool e] L (fun v w'=>v = .bool y):=by
 refine en Tryz.func154 Tryz.ntmps154 hT fun a I=>?_;replace I:=I.fS (aF.dn t);unfold uJ at B;refine kB I fun g A a w O I=>?_;refine am I fun a I=>?_;refine aC ?_;refine aM (J:=fun a w=>∃ (f:Bool),St L No T 44 [(0,o),(1,aj d),(6,pt g 0),(30,.bool f)] [.box g (JV c) 147] [aL an o b] a w/\kH b d c f=some y) ?_ ?_
 ·refine am I fun a I=>?_;rcases cd B with⟨h,B⟩|⟨h,B⟩
  ·refine am I fun a I=>?_;obtain⟨z,j,B⟩:=bd B;refine wg I rfl rfl rfl h (bn (R:=an) I uF nN rfl rfl 0 rfl j rfl fun u D x p a I=>?_);obtain⟨H,rfl,n⟩:=p;replace I:=I.fS n;refine am I fun a I=>?_;rcases cd B with⟨q,B⟩|⟨q,B⟩
   ·exact fz
   refine am I fun a I=>?_;rcases cd B with⟨i,B⟩|⟨i,B⟩
   ·exact fz
   refine am I fun a I=>?_;obtain⟨F,l,B⟩:=bd B;refine wg I rfl rfl rfl i (bB I Ka rfl rfl (Ai _ _ I.dlt b d c.b1 c.N _ I.g2 _ l) fun _ w C a O U=>?_);obtain rfl:=C;have I:=eL U;exact fz
  refine am I fun a I=>?_;obtain⟨G,m,B⟩:=bd B;refine wg I rfl rfl rfl rfl (bB I Ka rfl rfl (Ai _ _ I.dlt b d c.b1 c.N _ I.g0 _ m) fun _ w C a O U=>?_);obtain rfl:=C;have I:=eL U;exact fz
 rintro a w ⟨f,I,B⟩;unfold kH at B;rcases cd B with⟨r,B⟩|⟨r,B⟩
 ·exact fz
 refine am I fun a I=>?_;refine aC ?_;refine am I fun a I=>?_;rcases cd B with⟨s,B⟩|⟨s,B⟩
 ·exact fz
 refine am I fun a I=>?_;obtain⟨E,k,B⟩:=bd B;refine kE I Ka (Ai _ _ I.dlt b d c.b1 c.t1 _ I.g0 _ k) fun w a I=>?_;exact fz
def vB:=some (true)
def r6 (b:Int):Option (Fl (Int) (Fl (Unit) Bool)):=some (.go (IntKind.i64.wrap (b+1)))
def jd (e:LU) (g:Int) (d:aN) (b:Int):Option (Fl (Int) (Fl (Unit) Bool)):=cond (decide (b<(d.c.length:Int))) ((bu d.c b).bind fun f=>(uJ e g f (b==0)).bind fun h=>cond (!(h)) (some (.out (.out false))) (some (.go (IntKind.i64.wrap (b+1))))) (some (.out (.go ())))
def mY (e:LU) (d:Int) (b:aN) (g f h:Int):=cond (decide ((6:Int)<(b.c.length:Int))) (some (.out (.out false))) (cond (decide (b.n<g)) (some (.out (.out false))) (cond (decide (f<b.n)) (some (.out (.out false))) (cond (decide (b.C<0)) (some (.out (.out false))) (cond (decide (h<b.C)) (some (.out (.out false))) ((loop (fun s:Int=>jd e d b s) 0).bind fun r=>Fl.el r (fun s=>r6 d) (fun y=>some (.out (.out y))))))))
def kG (b:LU) (c:Int):=cond (decide (c<(b.length:Int))) ((bu b c).bind fun d=>cond d.f (mY b c d 5 5 65535) (mY b c d 1 4 999)) (some (.out (.go ())))
def uI (b:LU):=cond (decide ((24:Int)<(b.length:Int))) (some (false)) ((loop (fun s:Int=>kG b s) 0).bind fun r=>Fl.el r (fun s=>vB) (fun y=>some (y)))
theorem Gn (b:LU) (e:Value) (P:aF an T L e b) (y:Bool) (B:uI b=some y):bg aR No 101 [e] L (fun v w'=>v = .bool y):=by
 refine en Tryz.func101 Tryz.ntmps101 hT fun a I=>?_;replace I:=I.fS (aF.dn P);unfold uI at B;refine am I fun a I=>?_;refine aC ?_;refine am I fun a I=>?_;rcases cd B with⟨t,B⟩|⟨t,B⟩
 ·exact fz
 refine am I fun a I=>?_;refine aM (J:=fun a w=>St L No T 66 [] [] [] a w/\vB=some y) ?_ ?_
 ·refine am I fun a I=>?_;obtain⟨r1,M,hMo1⟩:=bd B;refine bF _ (fun s a w=>∃ (d:Int),d=s/\St L No T 66 [(0,e),(13,e),(14,aj (b.length:Int)),(15,aj d)] [] [aL an e b] a w) M ⟨_,rfl,I.mt [] [0]⟩ ?_;rintro s a w r ⟨d,rfl,I⟩ B hf1;have B:kG b d=some r:=B;unfold kG at B;refine am I fun a I=>?_;refine aC ?_;rcases cd B with⟨u,B⟩|⟨u,B⟩
  ·refine am I fun a I=>?_;refine aM (J:=fun a w=>St L No T 66 [(0,e),(13,e),(14,aj (b.length:Int)),(15,aj d)] [] [aL an e b] a w/\r6 d=some r) ?_ ?_
   ·refine am I fun a I=>?_;obtain⟨f,m,B⟩:=bd B;refine wl rfl (bn (R:=an) I uF nN rfl rfl 0 rfl m rfl fun Q a1 W x a I=>?_);obtain⟨h,rfl,p⟩:=x;replace I:=I.fS p;refine kA I ti fun l Z a w O I=>?_;refine go I fun a w I=>?_;refine aM (J:=fun a w=>∃ (j i k:Int),St L No T 66 [(0,e),(3,aj d),(4,pt l 0),(5,aj j),(6,aj i),(7,aj k),(13,e),(14,aj (b.length:Int)),(15,aj d)] [.box l (vY f h) 150] [aL an e b,aL dG h f.c] a w/\mY b d f j i k=some r) ?_ ?_
    ·exact fz
    rintro a w ⟨j,i,k,I,B⟩;unfold mY at B;refine aC ?_;refine io ?_;refine am I fun a I=>?_;rcases cd B with⟨z,B⟩|⟨z,B⟩
    ·exact fz
    refine am I fun a I=>?_;rcases cd B with⟨A,B⟩|⟨A,B⟩
    ·exact fz
    refine am I fun a I=>?_;rcases cd B with⟨D,B⟩|⟨D,B⟩
    ·exact fz
    refine am I fun a I=>?_;rcases cd B with⟨E,B⟩|⟨E,B⟩
    ·exact fz
    refine am I fun a I=>?_;rcases cd B with⟨F,B⟩|⟨F,B⟩
    ·exact fz
    refine am I fun a I=>?_;obtain⟨r2,N,hMo2⟩:=bd B;refine bF _ (fun s a w=>∃ (g:Int),g=s/\St L No T 66 [(0,e),(3,aj d),(13,e),(14,aj (b.length:Int)),(15,aj d),(50,h),(51,aj (f.c.length:Int)),(52,aj g)] [] [aL an e b,aL dG h f.c] a w) N ⟨_,rfl,I.mt [] [0,1]⟩ ?_;rintro s a w Y ⟨g,rfl,I⟩ B hf2;have B:jd b d f g=some Y:=B;unfold jd at B;refine am I fun a I=>?_;refine aC ?_;rcases cd B with⟨G,B⟩|⟨G,B⟩
    ·refine am I fun a I=>?_;refine aC ?_;refine am I fun a I=>?_;obtain⟨q,n,B⟩:=bd B;refine wl rfl (bn (R:=dG) I Is Iy rfl rfl 1 rfl n rfl fun S a2 X H a I=>?_);obtain rfl:=H;refine kA I xG fun V a0 a w O I=>?_;refine go I fun a w I=>?_;obtain⟨a3,o,B⟩:=bd B;refine kF I PS (Gp _ _ I.dlt b d q (g==0) _ I.g1 _ o) fun w a I=>?_;rcases cd B with⟨K,B⟩|⟨K,B⟩
     ·refine am I fun a I=>?_;cases B
      have hr:=hf2 _ rfl;subst hr;replace hMo2:=iE hMo2;have B:=hMo2;cases B
      have hr:=hf1 _ rfl;subst hr;replace hMo1:=iE hMo1;have B:=hMo1;cases B
      refine aG I rfl (aw I rfl aI) ?_;exact rfl
     exact fz
    exact fz
   rintro a w ⟨I,B⟩;unfold r6 at B;exact fz
  exact fz
 rintro a w ⟨I,B⟩;unfold vB at B;exact fz
def eM (b:Bool):=some (b)
def kM (b:aq):=(ff b.d).bind fun c=>cond c ((qd b.d).bind fun e=>cond (!(e)) (cond (decide (((b.u.size:Int):Int)<=1073741824)) (cond (decide ((1:Int)<=b.j)) (eM (decide (b.j<=1073741824))) (eM false)) (eM false)) (eM false)) (eM false)
def kN (e:aq) (b:Int):Option (Fl (Int) (Fl (Unit) Bool)):=cond (decide (b<(e.k.length:Int))) ((bu e.k b).bind fun c=>(ff c.d).bind fun f=>cond (!(f)) (some (.out (.out false))) (cond (decide (c.d1.k1<0)) (some (.out (.out false))) (some (.go (IntKind.i64.wrap (b+1)))))) (some (.out (.go ())))
def o5 (b:aq):=(loop (fun s:Int=>kN b s) 0).bind fun r=>Fl.el r (fun s=>kM b) (fun y=>some (y))
theorem BC (hLv:dh T L) (b:aq) (g:Value) (r:aF bQ T L g b.k) (y:Bool) (B:o5 b=some y):bg aR No 137 [.agg (bq b g).toArray] L (fun v w'=>v = .bool y):=by
 refine en Tryz.func137 Tryz.ntmps137 hT fun a I=>?_;replace I:=(I.fact bH (dh.dn hLv)).fS (aF.dn r);unfold o5 at B;refine kB I fun c A a w O I=>?_;refine am I fun a I=>?_;refine aM (J:=fun a w=>St L No T 48 [(1,pt c 0)] [.box c (bq b g) 51] [aL bQ g b.k,bH] a w/\kM b=some y) ?_ ?_
 ·refine am I fun a I=>?_;obtain⟨K,q,hMo1⟩:=bd B;refine bF _ (fun s a w=>∃ (e:Int),e=s/\St L No T 48 [(1,pt c 0),(6,g),(7,aj (b.k.length:Int)),(8,aj e)] [.box c (bq b g) 51] [aL bQ g b.k,bH] a w) q ⟨_,rfl,I.mt [0] [0,1]⟩ ?_;rintro s a w z ⟨e,rfl,I⟩ B hf1;have B:kN b e=some z:=B;unfold kN at B;refine am I fun a I=>?_;refine aC ?_;rcases cd B with⟨o,B⟩|⟨o,B⟩
  ·refine am I fun a I=>?_;refine aC ?_;refine am I fun a I=>?_;obtain⟨n,i,B⟩:=bd B;refine wl rfl (bn (R:=bQ) I Jy DW rfl rfl 0 rfl i rfl fun t E x p a I=>?_);obtain rfl:=p;refine kA I AV fun u D a w O I=>?_;refine go I fun a w I=>?_;refine io ?_;refine am I fun a I=>?_;obtain⟨H,m,B⟩:=bd B;refine kE I Dq (oD _ _ I.dlt I.g2 n.d _ m) fun w a I=>?_;exact fz
  exact fz
 rintro a w ⟨I,B⟩;unfold kM at B;refine aM (J:=fun a w=>∃ (f:Bool),St L No T 48 [(2,.bool f)] [] [bH] a w/\eM f=some y) ?_ ?_
 ·refine am I fun a I=>?_;obtain⟨F,j,B⟩:=bd B;refine kF I Dq (oD _ _ I.dlt I.g1 b.d _ j) fun w a I=>?_;rcases cd B with⟨h,B⟩|⟨h,B⟩
  ·refine am I fun a I=>?_;obtain⟨G,l,B⟩:=bd B;refine wg I rfl rfl rfl h (bB I H7 rfl rfl (tw _ _ I.dlt b.d _ l) fun _ w C a O U=>?_);obtain rfl:=C;have I:=eL U;exact fz
  exact fz
 rintro a w ⟨f,I,B⟩;unfold eM at B;exact fz
def na:=some (true)
def ge (c:(List aq)) (b:Int):Option (Fl (Int) (Fl (Unit) Bool)):=cond (decide (b<(c.length:Int))) ((bu c b).bind fun d=>(o5 d).bind fun e=>cond (!(e)) (some (.out (.out false))) (some (.go (IntKind.i64.wrap (b+1))))) (some (.out (.go ())))
def jC (b:(List aq)):=(loop (fun s:Int=>ge b s) 0).bind fun r=>Fl.el r (fun s=>na) (fun y=>some (y))
theorem xM (hLv:dh T L) (c:(List aq)) (g:Value) (l:aF ar T L g c) (y:Bool) (B:jC c=some y):bg aR No 76 [g] L (fun v w'=>v = .bool y):=by
 refine en Tryz.func76 Tryz.ntmps76 hT fun a I=>?_;replace I:=(I.fact bH (dh.dn hLv)).fS (aF.dn l);unfold jC at B;refine am I fun a I=>?_;refine aM (J:=fun a w=>St L No T 15 [] [] [bH] a w/\na=some y) ?_ ?_
 ·refine am I fun a I=>?_;obtain⟨x,k,hMo1⟩:=bd B;refine bF _ (fun s a w=>∃ (b:Int),b=s/\St L No T 15 [(5,g),(6,aj (c.length:Int)),(7,aj b)] [] [aL ar g c,bH] a w) k ⟨_,rfl,I.mt [] [0,1]⟩ ?_;rintro s a w p ⟨b,rfl,I⟩ B hf1;have B:ge c b=some p:=B;unfold ge at B;refine am I fun a I=>?_;refine aC ?_;rcases cd B with⟨i,B⟩|⟨i,B⟩
  ·refine am I fun a I=>?_;refine aC ?_;refine am I fun a I=>?_;obtain⟨h,d,B⟩:=bd B;refine wl rfl (bn (R:=ar) I ya uM rfl rfl 0 rfl d rfl fun m r o j a I=>?_);obtain⟨u,rfl,f⟩:=j;replace I:=I.fS f;refine kA I uT fun n q a w O I=>?_;refine go I fun a w I=>?_;obtain⟨t,e,B⟩:=bd B;refine kE I PL (BC _ _ I.dlt I.g3 h _ I.g0 _ e) fun w a I=>?_;exact fz
  exact fz
 rintro a w ⟨I,B⟩;unfold na at B;exact fz
def u5 (c:ByteArray) (b:Int):=some ((aT.mk (c.size:Int) b))
def rP (c b:Int):Option (Fl (Int×Int) (Int)):=some (.go (b,IntKind.i64.wrap (c+1)))
def mH (b c:Int):Option (Fl (Int×Int) (Int)):=cond (decide (c<8)) (some (.go (wh .xor .u64 (Ag .u64 b 1) (IntKind.u64.wrap ((rI .u64 b 63)*4823603603198064275)),IntKind.i64.wrap (c+1)))) (some (.out b))
def mI (d:ByteArray) (c b:Int):=cond (decide (b<(d.size:Int))) ((bu d.toList b).bind fun e=>(loop (fun s:Int×Int=>mH s.1 s.2) (wh .xor .u64 c (Ag .u64 (IntKind.u64.wrap (e.toNat:Int)) 56),0)).bind fun r=>rP b r) (some (.out c))
def p9 (b:ByteArray):=(loop (fun s:Int×Int=>mI b s.1 s.2) (18446744073709551615,0)).bind fun r=>u5 b r
theorem wd (b:ByteArray) (y:aT) (B:p9 b=some y):bg aR No 110 [a8 b] L (fun v w'=>v = .agg (oU y).toArray):=by
 refine en Tryz.func110 Tryz.ntmps110 hT fun a I=>?_;unfold p9 at B;refine kA I AU fun c r a w O I=>?_;refine am I fun a I=>?_;refine aM (J:=fun a w=>∃ (e:Int),St L No T 33 [(0,a8 b),(2,pt c 0),(3,.int .u64 e)] [.box c [aj 0,.int .u64 0] 105] [] a w/\u5 b e=some y) ?_ ?_
 ·refine am I fun a I=>?_;obtain⟨t,n,hMo1⟩:=bd B;refine bF _ (fun s a w=>∃ (g d:Int),(g,d)=s/\St L No T 33 [(0,a8 b),(2,pt c 0),(3,.int .u64 g),(7,aj (b.size:Int)),(8,aj d)] [.box c [aj 0,.int .u64 0] 105] [] a w) n ⟨_,_,rfl,I.mt [0] []⟩ ?_;rintro s a w m ⟨g,d,rfl,I⟩ B hf1;have B:mI b g d=some m:=B;unfold mI at B;refine am I fun a I=>?_;refine aC ?_;rcases cd B with⟨k,B⟩|⟨k,B⟩
  ·refine am I fun a I=>?_;refine aM (J:=fun a w=>∃ (i:Int),St L No T 33 [(0,a8 b),(2,pt c 0),(3,.int .u64 i),(7,aj (b.size:Int)),(8,aj d)] [.box c [aj 0,.int .u64 0] 105] [] a w/\rP d i=some m) ?_ ?_
   ·refine am I fun a I=>?_;obtain⟨p,j,B⟩:=bd B;refine qy I (Al I Tryz.underlying9 rfl rfl j) fun a I=>?_;refine am I fun a I=>?_;refine qy I (LS I rfl rfl rfl) fun a I=>?_;refine qy I (Ct I rfl rfl rfl) fun a I=>?_;refine am I fun a I=>?_;obtain⟨u,o,hMo2⟩:=bd B;refine bF _ (fun s a w=>∃ (f h:Int),(f,h)=s/\St L No T 33 [(0,a8 b),(2,pt c 0),(3,.int .u64 f),(7,aj (b.size:Int)),(8,aj d),(18,aj h)] [.box c [aj 0,.int .u64 0] 105] [] a w) o ⟨_,_,rfl,I.mt [0] []⟩ ?_;rintro s a w q ⟨f,h,rfl,I⟩ B hf2;have B:mH f h=some q:=B;unfold mH at B;refine am I fun a I=>?_;refine aC ?_;rcases cd B with⟨l,B⟩|⟨l,B⟩
    ·refine am I fun a I=>?_;refine aC ?_;refine am I fun a I=>?_;refine qy I (GD I rfl rfl rfl) fun a I=>?_;refine am I fun a I=>?_;refine qy I (LS I rfl rfl rfl) fun a I=>?_;refine am I fun a I=>?_;refine qy I (Ct I rfl rfl rfl) fun a I=>?_;exact fz
    exact fz
   rintro a w ⟨i,I,B⟩;unfold rP at B;exact fz
  exact fz
 rintro a w ⟨e,I,B⟩;unfold u5 at B;refine am I fun a I=>?_;refine qy I (bw (ps:=[(0,.tmp 30),(1,.tmp 31)]) I NV AU rfl (us:=[[aj (b.size:Int)],[.int .u64 e]]) ⟨rfl,⟨rfl,trivial⟩⟩ (ws:=[aj (b.size:Int),.int .u64 e]) rfl) fun a I=>?_;refine go I fun a w I=>?_;cases B
 refine aG I rfl (rC 0 I) ?_;exact rfl
def nq (b:Bool):=some (b)
def u9 (b:ae):=cond (b.v==31) (nq true) (nq (b.v==32))
theorem EC (c:ae) (y:Bool) (B:u9 c=some y):bg aR No 158 [.agg (aX c).toArray] L (fun v w'=>v = .bool y):=by
 refine en Tryz.func158 Tryz.ntmps158 hT fun a I=>?_;unfold u9 at B;refine kB I fun d e a w O I=>?_;refine am I fun a I=>?_;refine aM (J:=fun a w=>∃ (b:Bool),St L No T 11 [(2,.bool b)] [] [] a w/\nq b=some y) ?_ ?_
 ·exact fz
 rintro a w ⟨b,I,B⟩;unfold nq at B;exact fz
def un (d b:Int):=(yJ d).bind fun c=>some ((ae.mk b c))
def BN (c:LU) (b:Int):=cond (decide (b<0)) (some ((ae.mk 0 cp))) (cond (decide ((c.length:Int)<=b)) (some ((ae.mk 0 cp))) (cond (decide ((99:Int)<b)) (some ((ae.mk 0 cp))) ((bu c b).bind fun d=>cond d.f (un b 32) (un b 31))))
theorem KG (hLv:dh T L) (d:LU) (c:Int) (o:Value) (n:aF an T L o d) (y:ae) (B:BN d c=some y):bg aR No 159 [o,aj c] L (fun v w'=>v = .agg (aX y).toArray):=by
 refine en Tryz.func159 Tryz.ntmps159 hT fun a I=>?_;replace I:=(I.fact bH (dh.dn hLv)).fS (aF.dn n);unfold BN at B;refine kA I fH fun e s a w O I=>?_;refine am I fun a I=>?_;refine aC ?_;refine io ?_;refine am I fun a I=>?_;rcases cd B with⟨j,B⟩|⟨j,B⟩
 ·refine am I fun a I=>?_;refine qy I (bw (ps:=[]) I BU fH rfl (us:=[]) trivial (ws:=[aj 0,a8 cp]) rfl) fun a I=>?_;refine go I fun a w I=>?_;cases B
  refine aG I rfl (rC 0 I) ?_;exact rfl
 refine am I fun a I=>?_;rcases cd B with⟨k,B⟩|⟨k,B⟩
 ·refine am I fun a I=>?_;refine qy I (bw (ps:=[]) I BU fH rfl (us:=[]) trivial (ws:=[aj 0,a8 cp]) rfl) fun a I=>?_;refine go I fun a w I=>?_;cases B
  refine aG I rfl (rC 0 I) ?_;exact rfl
 refine am I fun a I=>?_;rcases cd B with⟨l,B⟩|⟨l,B⟩
 ·refine am I fun a I=>?_;refine qy I (bw (ps:=[]) I BU fH rfl (us:=[]) trivial (ws:=[aj 0,a8 cp]) rfl) fun a I=>?_;refine go I fun a w I=>?_;cases B
  refine aG I rfl (rC 0 I) ?_;exact rfl
 refine am I fun a I=>?_;refine aM (J:=fun a w=>∃ (b:Int),St L No T 28 [(1,aj c),(4,pt e 0),(5,aj b)] [.box e [aj 0,a8 cp] 30] [bH] a w/\un c b=some y) ?_ ?_
 ·refine am I fun a I=>?_;obtain⟨r,g,B⟩:=bd B;refine wl rfl (bn (R:=an) I uF nN rfl rfl 0 rfl g rfl fun p t q m a I=>?_);obtain⟨u,rfl,i⟩:=m;replace I:=I.fS i;exact fz
 rintro a w ⟨b,I,B⟩;unfold un at B;refine am I fun a I=>?_;obtain⟨f,h,B⟩:=bd B;refine kE I Fq (yK _ _ I.dlt I.g0 c _ h) fun w a I=>?_;refine qy I (bw (ps:=[(0,.tmp 24),(1,.tmp 26)]) I BU fH rfl (us:=[[aj b],[a8 f]]) ⟨rfl,⟨rfl,trivial⟩⟩ (ws:=[aj b,a8 f]) rfl) fun a I=>?_;refine go I fun a w I=>?_;cases B
 refine aG I rfl (rC 0 I) ?_;exact rfl
def jD (b:Bool):=some (b)
def qT (c:LU) (b:ae):=(ff b).bind fun e=>cond e ((u9 b).bind fun f=>cond (!(f)) (jD true) ((kj b).bind fun g=>(BN c g).bind fun d=>jD (d.v==b.v&&d.x.toList==b.x.toList))) (jD false)
theorem C0 (hLv:dh T L) (c:LU) (b:ae) (o:Value) (n:aF an T L o c) (y:Bool) (B:qT c b=some y):bg aR No 106 [o,.agg (aX b).toArray] L (fun v w'=>v = .bool y):=by
 refine en Tryz.func106 Tryz.ntmps106 hT fun a I=>?_;replace I:=(I.fact bH (dh.dn hLv)).fS (aF.dn n);unfold qT at B;refine kB I fun p q a w O I=>?_;refine am I fun a I=>?_;refine aM (J:=fun a w=>∃ (e:Bool),St L No T 20 [(4,.bool e)] [] [bH] a w/\jD e=some y) ?_ ?_
 ·refine dr [] I fun w hQ I=>?_;refine gE [0] I fun a I=>?_;obtain⟨r,h,B⟩:=bd B;refine ec 1 I Dq (oD _ _ I.dlt I.g1 b _ h) fun _ w C a O U=>?_;obtain rfl:=C;have I:=eL U;refine gE [2] I fun a I=>?_;rcases cd B with⟨f,B⟩|⟨f,B⟩
  ·refine gE [3] I fun a I=>?_;obtain⟨s,j,B⟩:=bd B;refine cR (i:=4) rfl (by kernel_rfl) I rfl rfl rfl f (bB I PU rfl rfl (EC _ _ I.dlt b _ j) fun _ w C a O U=>⟨fq (O),?_⟩);obtain rfl:=C;have I:=eL U;refine gE [5,6] I fun a I=>?_;rcases cd B with⟨d,B⟩|⟨d,B⟩
   ·refine gE [7,8,9,10,11,12,13,14,15] I fun a I=>?_;refine eD ?_;exact fin
   refine gE [7,8,11] I fun a I=>?_;obtain⟨m,k,B⟩:=bd B;refine cR (i:=9) rfl (by kernel_rfl) I rfl rfl rfl d (bB I Ns rfl rfl (yM _ _ I.dlt I.g1 b _ k) fun _ w C a O U=>⟨fq (O),?_⟩);obtain rfl:=C;have I:=eL U;obtain⟨g,l,B⟩:=bd B;refine cR (i:=10) rfl (by kernel_rfl) I rfl rfl rfl d (bB I PW rfl rfl (KG _ _ I.dlt I.g1 c m _ I.g0 _ l) fun _ w C a O U=>⟨fq (O),?_⟩);obtain rfl:=C;have I:=eL U;refine dg 12 I d (v:=.bool (g.v==b.v&&g.x.toList==b.x.toList)) (CZ I rfl rfl) fun a I=>?_;refine gE [13,14,15] I fun a I=>?_;refine eD ?_;exact fin
  refine gE [3,4,5,6,7,8,9,10,11,12,13,14,15] I fun a I=>?_;refine eD ?_;exact fin
 rintro a w ⟨e,I,B⟩;unfold jD at B;exact fz
def dE (c:a7) (b:ae):=some (c.d.v==b.v&&c.d.x.toList==b.x.toList)
theorem zq (c:a7) (b:ae) (e:Nat) (f:(co e 0 (aX b)).p T L) (y:Bool) (B:dE c b=some y):bg aR No 256 [.agg (tK c).toArray,pt e 0] L (fun v w'=>v = .bool y):=by
 refine en Tryz.func256 Tryz.ntmps256 hT fun a I=>?_;replace I:=I.fact (co e 0 (aX b)) (cq.dn _ f);unfold dE at B;refine kB I fun g h a w O I=>?_;refine am I fun a I=>?_;refine wl rfl (ky (v:=.bool (c.d.v==b.v&&c.d.x.toList==b.x.toList)) I (CZ I rfl rfl) rfl rfl fun a I=>?_);exact fz
def dv:=some ((-1))
def ba (c:LI) (f:a7->Option Bool) (b:Int):Option (Fl (Int) (Fl (Unit) Int)):=cond (decide (b<(c.length:Int))) ((bu c b).bind fun d=>(f d).bind fun e=>cond e (some (.out (.out b))) (some (.go (IntKind.i64.wrap (b+1))))) (some (.out (.go ())))
def cB (b:a7->Option Bool) (c:LI):=(loop (fun s:Int=>ba c b s) 0).bind fun r=>Fl.el r (fun s=>dv) (fun y=>some (y))
theorem mo (hLv:dh T L) (f_1g:Nat) (f:aS aR f_1g=true) (f_1k:bI) (f_1P:cq) (d:a7->Option Bool) (m:∀ (T:Nat->Prop) (L:World) (hT:TW T L) (hLv:dh T L) (hP:f_1P.p T L) (q:a7) (y:Bool) (B:d q=some y),bg aR No f_1g ([.agg (tK q).toArray]++f_1k) L (fun v w'=>v = .bool y)) (e:f_1P.p T L) (c:LI) (i:Value) (o:aF ac T L i c) (y:Int) (B:cB d c=some y):bg aR No 255 [i,.func (.func f_1g) #[] f_1k.toArray] L (fun v w'=>v=aj y):=by
 refine en Tryz.func255 Tryz.ntmps255 hT fun a I=>?_;replace I:=((I.fact f_1P (cq.dn _ e)).fact bH (dh.dn hLv)).fS (aF.dn o);unfold cB at B;refine am I fun a I=>?_;refine aM (J:=fun a w=>St L No T 19 [] [] [bH,f_1P] a w/\dv=some y) ?_ ?_
 ·refine am I fun a I=>?_;obtain⟨A,n,hMo1⟩:=bd B;refine bF _ (fun s a w=>∃ (b:Int),b=s/\St L No T 19 [(0,i),(1,.func (.func f_1g) #[] f_1k.toArray),(7,aj (c.length:Int)),(8,aj b)] [] [aL ac i c,bH,f_1P] a w) n ⟨_,rfl,I.mt [] [0,1,2]⟩ ?_;rintro s a w u ⟨b,rfl,I⟩ B hf1;have B:ba c d b=some u:=B;unfold ba at B;refine am I fun a I=>?_;refine aC ?_;rcases cd B with⟨k,B⟩|⟨k,B⟩
  ·refine am I fun a I=>?_;refine aC ?_;refine am I fun a I=>?_;obtain⟨j,g,B⟩:=bd B;refine wl rfl (bn (R:=ac) I Dh Di rfl rfl 0 rfl g rfl fun r x t l a I=>?_);obtain rfl:=l;refine am I fun a I=>?_;obtain⟨z,h,B⟩:=bd B;refine wl rfl (yL (cap:=f_1k) I rfl f rfl rfl (m _ _ I.dlt I.g2 I.g3 j _ h) fun _ w C a O U=>?_);obtain rfl:=C;have I:=eL U;exact fz
  exact fz
 rintro a w ⟨I,B⟩;unfold dv at B;exact fz
def nL (c:ah) (e:ae):=(cB (fun f=>dE f e) c.i).bind fun b=>cond (decide (b<0)) (some ((a7.mk (ae.mk 0 cp) cp 0))) ((bu c.i b).bind fun d=>some (d))
theorem A5 (hLv:dh T L) (c:ah) (d:ae) (m n:Value) (k:aF ac T L m c.i) (l:aF aa T L n c.s) (y:a7) (B:nL c d=some y):bg aR No 226 [.agg (aU c m n).toArray,.agg (aX d).toArray] L (fun v w'=>v = .agg (tK y).toArray):=by
 refine en Tryz.func226 Tryz.ntmps226 hT fun a I=>?_;replace I:=((I.fact bH (dh.dn hLv)).fS (aF.dn k)).fS (aF.dn l);unfold nL at B;refine kB I fun o u a w O I=>?_;refine kb I fun b x a w O I=>?_;refine ka I Ap fun p z a w O I=>?_;refine am I fun a I=>?_;replace I:=I.zx 1 rfl;refine qy I (zA (vs:=[pt b 0]) I rfl) fun a I=>?_;obtain⟨D,f,B⟩:=bd B;refine kF I QB (mo _ _ I.dlt I.g3 256 QC [pt b 0] (L4 (co b 0 (aX d)) HZ) (fun j=>dE j d) (fun T L hT hLv hP j y B=>zq T L hT j d b hP.1 y B) ⟨I.g0,trivial⟩ c.i _ I.g2 _ f) fun w a I=>?_;refine aC ?_;refine am I fun a I=>?_;rcases cd B with⟨g,B⟩|⟨g,B⟩
 ·refine am I fun a I=>?_;refine qy I (bw (ps:=[]) I ML Ap rfl (us:=[]) trivial (ws:=[aj 0,a8 cp,a8 cp,aj 0]) rfl) fun a I=>?_;refine go I fun a w I=>?_;cases B
  refine aG I rfl (rC 0 I) ?_;exact rfl
 refine am I fun a I=>?_;obtain⟨t,e,B⟩:=bd B;refine wl rfl (bn (R:=ac) I Dh Di rfl rfl 2 rfl e rfl fun q A r h a I=>?_);obtain rfl:=h;refine go I fun a w I=>?_;cases B
 refine aG I rfl (rC 0 I) ?_;exact rfl
def pM (c:ah) (d:ae):=(nL c d).bind fun b=>some (b.u)
theorem B6 (hLv:dh T L) (b:ah) (c:ae) (g h:Value) (e:aF ac T L g b.i) (f:aF aa T L h b.s) (y:ByteArray) (B:pM b c=some y):bg aR No 191 [.agg (aU b g h).toArray,.agg (aX c).toArray] L (fun v w'=>v=a8 y):=by
 refine en Tryz.func191 Tryz.ntmps191 hT fun a I=>?_;replace I:=((I.fact bH (dh.dn hLv)).fS (aF.dn e)).fS (aF.dn f);unfold pM at B;refine kB I fun j l a w O I=>?_;refine kb I fun k m a w O I=>?_;refine am I fun a I=>?_;obtain⟨n,d,B⟩:=bd B;refine kE I Qu (A5 _ _ I.dlt I.g2 b c _ _ I.g1 I.g0 _ d) fun w a I=>?_;refine qy I (Cu I rfl Tryz.underlying91 rfl rfl MV rfl rfl (fun _=>rfl)) fun a I=>?_;exact fz
def jM (e:au) (c:ae):=(ve e.d c).bind fun b=>some (b)
theorem Aa (hLv:dh T L) (b:au) (c:ae) (g:Value) (f:aF ad T L g b.k) (y:Int) (B:jM b c=some y):bg aR No 203 [.agg (bh b g).toArray,.agg (aX c).toArray] L (fun v w'=>v=aj y):=by
 refine en Tryz.func203 Tryz.ntmps203 hT fun a I=>?_;replace I:=(I.fact bH (dh.dn hLv)).fS (aF.dn f);unfold jM at B;refine kB I fun h j a w O I=>?_;refine kb I fun i l a w O I=>?_;refine am I fun a I=>?_;obtain⟨m,e,B⟩:=bd B;refine kE I J5 (zR _ _ I.dlt I.g1 b.d c _ e) fun w a I=>?_;exact fz
def sw (c:Int) (b:Bool):=some ((c,b))
def uU (d:LR) (c:ae) (e:au->ae->Option Int) (b:Int):=cond (decide (b<(d.length:Int))) ((bu d b).bind fun f=>(e f c).bind fun g=>sw b (g==0)) (sw b false)
def uV (h:LR) (d:ae) (e:au->ae->Option Int) (b c:Int):Option (Fl (Int×Int) (Int)):=cond (decide (b<c)) ((bu h (IntKind.i64.wrap (rI .u64 (IntKind.u64.wrap (IntKind.i64.wrap (b+c))) 1))).bind fun f=>(e f d).bind fun g=>cond (decide (g<0)) (some (.go (IntKind.i64.wrap ((IntKind.i64.wrap (rI .u64 (IntKind.u64.wrap (IntKind.i64.wrap (b+c))) 1))+1),c))) (some (.go (b,IntKind.i64.wrap (rI .u64 (IntKind.u64.wrap (IntKind.i64.wrap (b+c))) 1))))) (some (.out b))
def A9 (c:au->ae->Option Int) (d:LR) (b:ae):=(loop (fun s:Int×Int=>uV d b c s.1 s.2) (0,(d.length:Int))).bind fun r=>uU d b c r
theorem IX (hLv:dh T L) (cmp_g:Nat) (j:aS aR cmp_g=true) (cmp_k:bI) (cmp_P:cq) (f:au->ae->Option Int) (n:∀ (T:Nat->Prop) (L:World) (hT:TW T L) (hLv:dh T L) (hP:cmp_P.p T L) (V:au) (Y:ae) (A:Value) (a3:aF ad T L A V.k) (y:Int) (B:f V Y=some y),bg aR No cmp_g ([.agg (bh V A).toArray,.agg (aX Y).toArray]++cmp_k) L (fun v w'=>v=aj y)) (hPcmp_:cmp_P.p T L) (c:LR) (b:ae) (o:Value) (X:aF aa T L o c) (y:Int×Bool) (B:A9 f c b=some y):bg aR No 202 [o,.agg (aX b).toArray,.func (.func cmp_g) #[] cmp_k.toArray] L (fun v w'=>v = .tuple #[aj y.1,.bool y.2]):=by
 refine en Tryz.func202 Tryz.ntmps202 hT fun a I=>?_;replace I:=((I.fact cmp_P (cq.dn _ hPcmp_)).fact bH (dh.dn hLv)).fS (aF.dn X);unfold A9 at B;refine kB I fun e a2 a w O I=>?_;refine am I fun a I=>?_;refine aM (J:=fun a w=>∃ (d:Int),St L No T 49 [(0,o),(2,.func (.func cmp_g) #[] cmp_k.toArray),(4,pt e 0),(8,aj (c.length:Int)),(9,aj d)] [.box e (aX b) 30] [aL aa o c,bH,cmp_P] a w/\uU c b f d=some y) ?_ ?_
 ·refine am I fun a I=>?_;obtain⟨r1,W,hMo1⟩:=bd B;refine bF _ (fun s a w=>∃ (g h:Int),(g,h)=s/\St L No T 49 [(0,o),(2,.func (.func cmp_g) #[] cmp_k.toArray),(4,pt e 0),(8,aj (c.length:Int)),(9,aj g),(10,aj h)] [.box e (aX b) 30] [aL aa o c,bH,cmp_P] a w) W ⟨_,_,rfl,I.mt [0] [0,1,2]⟩ ?_;rintro s a w f1 ⟨g,h,rfl,I⟩ B hf1;have B:uV c b f g h=some f1:=B;unfold uV at B;refine aC ?_;refine am I fun a I=>?_;rcases cd B with⟨H,B⟩|⟨H,B⟩
  ·refine am I fun a I=>?_;refine qy I (GD I rfl rfl rfl) fun a I=>?_;refine am I fun a I=>?_;refine aC ?_;refine dr [] I fun w hQ I=>?_;refine gE [0,1,2] I fun a I=>?_;obtain⟨G,r,B⟩:=bd B;obtain⟨D,Q,Z,K,M,I⟩:=lq (R:=aa) I mV j6 0 rfl r;obtain⟨a9,rfl,x⟩:=K;replace I:=I.fS x;refine dq 3 I (v:=pt D Q) (M rfl rfl) fun a I=>?_;refine gE [4,5] I fun a I=>?_;obtain⟨a5,u,B⟩:=bd B;refine e1 6 (yL (cap:=cmp_k) I rfl j rfl rfl (n _ _ I.dlt I.g3 I.g4 G b _ I.g0 _ u) fun _ w C a O U=>⟨fq (O),?_⟩);obtain rfl:=C;have I:=eL U;refine gE [7] I fun a I=>?_;refine eD ?_;exact fz
  exact fz
 rintro a w ⟨d,I,B⟩;unfold uU at B;refine aM (J:=fun a w=>∃ (l:Bool),St L No T 49 [(6,aj d),(7,.bool l)] [] [bH,cmp_P] a w/\sw d l=some y) ?_ ?_
 ·refine dr [] I fun w hQ I=>?_;refine gE [0,1,2,3,4] I fun a I=>?_;rcases cd B with⟨m,B⟩|⟨m,B⟩
  ·refine gE [5,6,7] I fun a I=>?_;obtain⟨F,q,B⟩:=bd B;obtain⟨E,S,a0,N,P,I⟩:=lq (R:=aa) I mV j6 0 rfl q;obtain⟨ab,rfl,z⟩:=N;replace I:=I.fS z;refine dg 8 I m (v:=pt E S) (P rfl rfl) fun a I=>?_;refine gE [9,10] I fun a I=>?_;obtain⟨a4,t,B⟩:=bd B;refine cR (i:=11) rfl (by kernel_rfl) I rfl rfl rfl m (yL (cap:=cmp_k) I rfl j rfl rfl (n _ _ I.dlt I.g3 I.g4 F b _ I.g0 _ t) fun _ w C a O U=>⟨fq (O),?_⟩);obtain rfl:=C;have I:=eL U;refine gE [12,13,14,15] I fun a I=>?_;refine eD ?_;exact fin
  refine gE [5,6,7,8,9,10,11,12,13,14,15] I fun a I=>?_;refine eD ?_;exact fin
 rintro a w ⟨l,I,B⟩;unfold sw at B;refine am I fun a I=>?_;cases B
 refine aG I Tryz.results202 (aw I rfl (aw I rfl aI)) ?_;exact rfl
def mK (d:LR) (c:ae):=(A9 jM d c).bind fun b=>some ((b.1,b.2))
theorem BW (hLv:dh T L) (c:LR) (b:ae) (g:Value) (f:aF aa T L g c) (y:Int×Bool) (B:mK c b=some y):bg aR No 166 [g,.agg (aX b).toArray] L (fun v w'=>v = .tuple #[aj y.1,.bool y.2]):=by
 refine en Tryz.func166 Tryz.ntmps166 hT fun a I=>?_;replace I:=(I.fact bH (dh.dn hLv)).fS (aF.dn f);unfold mK at B;refine kB I fun i j a w O I=>?_;refine am I fun a I=>?_;obtain⟨k,d,B⟩:=bd B;refine kF I Qm (IX _ _ I.dlt I.g1 203 Qn [] HZ jM (fun T L hT hLv _ l m h e y B=>Aa T L hT hLv l m h e y B) trivial c b _ I.g0 _ d) fun w a I=>?_;cases B
 refine aG I Tryz.results166 (aw I rfl (aw I rfl aI)) ?_;exact rfl
def s3 (h:LR) (e:au):=(oF h).bind fun b=>(mK b e.d).bind fun c=>cond c.2 ((ol e).bind fun f=>(bu b c.1).bind fun i=>some ((b.set (Int.toNat c.1) f))) ((ol e).bind fun g=>gd (decide (0<=c.1)) <| gd (decide (c.1<=b.length)) <| gd (bP (b.length+1)) <| some ((List.take (Int.toNat c.1) b++g::List.drop (Int.toNat c.1) b)))
theorem EQ (hLv:dh T L) (l:LR) (b:au) (v1 Y:Value) (a0:aF aa T L v1 l) (a1:aF ad T L Y b.k) (y:LR) (B:s3 l b=some y):bg aR No 109 [v1,.agg (bh b Y).toArray] L (fun v w'=>∃ (Z:Value) (uZ:bI),v=Z/\gG aa T L w' [aJ Z uZ] 33 Z uZ y):=by
 refine en Tryz.func109 Tryz.ntmps109 hT fun a I=>?_;replace I:=((I.fact bH (dh.dn hLv)).fS (aF.dn a0)).fS (aF.dn a1);unfold s3 at B;refine kB I fun t ab a w O I=>?_;refine am I fun a I=>?_;obtain⟨S,o,B⟩:=bd B;refine kc I Nr (xo _ _ I.dlt l _ I.g1 _ o) fun _ w C a O U=>?_;obtain⟨n,x,he,g⟩:=C;obtain rfl:=he.symm;have I:=qs U g;refine am I fun a I=>?_;have hL:=I;replace hL:=hL.zf (R:=aa) 0 rfl 0 rfl;obtain⟨ak,p,B⟩:=bd B;refine kF I P2 (BW _ _ hL.dlt hL.g4 S b.d _ hL.g0 _ p) fun w a I=>?_;refine aC ?_;refine am I fun a I=>?_;rcases cd B with⟨E,B⟩|⟨E,B⟩
 ·refine am I fun a I=>?_;obtain⟨m,q,B⟩:=bd B;refine kc I J7 (vn _ _ I.dlt b _ I.g1 _ q) fun _ w C a O U=>?_;obtain⟨V,a4,he,h⟩:=C;obtain rfl:=he.symm;have I:=qs U h;obtain⟨D,f,B⟩:=bd B;refine wl rfl (dx (R:=aa) I mV j6 rfl rfl 1 rfl 1 rfl f rfl fun a3 af ag a5 F G H a I=>?_);obtain⟨W,rfl,s⟩:=F;replace I:=(I.fS s).zf (R:=ad) 0 rfl 1 rfl;refine wl rfl (sO (R:=aa) (k:=0) (cs:=(bh D W)) (us:=(bh m V)) (x':=m) I rfl rfl rfl j6 0 rfl 3 rfl G H f (⟨_,rfl,I.g1⟩) rfl rfl (⟨_,rfl,I.g0⟩) fun z w O I=>?_);refine am I fun a I=>?_;cases B
  refine aG I rfl (aw I rfl aI) ?_;exact⟨n,z,rfl,I.zo ⟨.inr (aO (i:=0) rfl),trivial⟩ 0 rfl 0 rfl⟩
 refine am I fun a I=>?_;obtain⟨c,r,B⟩:=bd B;refine kc I J7 (vn _ _ I.dlt b _ I.g1 _ r) fun _ w C a O U=>?_;obtain⟨e,a9,he,j⟩:=C;obtain rfl:=he.symm;have I:=qs U j;refine wl rfl (bf (ps:=[(0,.tmp 27)]) I tN eJ (zl:=[aj 0,a8 cp,a8 cp,.slice none 0 0,aj 0,aj 0,aj 0,.bool false]) (by kernel_rfl) rfl (us:=[(bh c e)]) ⟨rfl,trivial⟩ (ws:=(bh c e)) rfl rfl rfl rfl fun u a w O I=>?_);replace I:=I.zf (R:=ad) 1 rfl 0 rfl;obtain⟨J,B⟩:=aW B;obtain⟨K,B⟩:=aW B;obtain⟨M,B⟩:=aW B;replace I:=I.re [1,0] [2];have N:aa.rel (dT T ([aJ n x,.box u (bh c e) 33]++[.box t (bh b Y) 33])) w (bh c e) c:=⟨_,rfl,I.g0⟩;refine wl rfl (ci I P3 rfl rfl (KA (R:=aa) rfl _ _ _ _ _ _ _ _ _ I.dok I.d2 (aa.keep N (al _ _) (fun k O=>.inl ((Bw k).1 O))) J K M) fun X w C a O U=>?_);obtain⟨A,P,Q⟩:=C;have I:=U _ Q;replace I:=I.fR (P.keep (al _ _) (ay _));refine am I fun a I=>?_;cases B
 refine aG I rfl (aw I rfl aI) ?_;exact⟨X,A,rfl,I.zo ⟨.inr (aO (i:=0) rfl),trivial⟩ 0 rfl 0 rfl⟩
def mj (c:(au×Bool)) (b:Bool):=some ((c.1.u,b))
def rx (c:ah) (d:ae):=(cu d).bind fun e=>cond e ((oL c d).bind fun f=>some ((f,true))) ((cm c.s d).bind fun b=>cond b.2 (mj b (b.1.t==c.r)) (mj b false))
theorem De (b:ah) (c:ae) (o p:Value) (m:aF ac T L o b.i) (n:aF aa T L p b.s) (y:ByteArray×Bool) (B:rx b c=some y):bg aR No 136 [.agg (aU b o p).toArray,.agg (aX c).toArray] L (fun v w'=>v = .tuple #[a8 y.1,.bool y.2]):=by
 refine en Tryz.func136 Tryz.ntmps136 hT fun a I=>?_;replace I:=(I.fS (aF.dn m)).fS (aF.dn n);unfold rx at B;refine kB I fun q z a w O I=>?_;refine kb I fun r A a w O I=>?_;refine am I fun a I=>?_;refine aC ?_;refine am I fun a I=>?_;obtain⟨E,h,B⟩:=bd B;refine kF I yx (da _ _ I.dlt c _ h) fun w a I=>?_;rcases cd B with⟨k,B⟩|⟨k,B⟩
 ·refine am I fun a I=>?_;obtain⟨F,j,B⟩:=bd B;refine kF I Mm (tA _ _ I.dlt b c _ _ I.g1 I.g0 _ j) fun w a I=>?_;cases B
  refine aG I Tryz.results136 (aw I rfl (aw I rfl aI)) ?_;exact rfl
 refine am I fun a I=>?_;obtain⟨f,g,B⟩:=bd B;refine kc I rM (bR _ _ I.dlt b.s c _ I.g0 _ g) fun _ w C a O U=>?_;obtain⟨G,x,he,e⟩:=C;obtain rfl:=he.symm;have I:=qs U e;refine kA I eJ fun t D a w O I=>?_;refine go I fun a w I=>?_;refine aM (J:=fun a w=>∃ (d:Bool),St L No T 30 [(4,a8 f.1.u),(5,.bool d)] [] [] a w/\mj f d=some y) ?_ ?_
 ·refine dr [] I fun w hQ I=>?_;refine gE [0,1,2,3] I fun a I=>?_;rcases cd B with⟨l,B⟩|⟨l,B⟩
  ·refine gE [4,5,6,7,8,9,10,11] I fun a I=>?_;refine eD ?_;exact fin
  refine gE [4,5,6,7,8,9,10,11] I fun a I=>?_;refine eD ?_;exact fin
 rintro a w ⟨d,I,B⟩;unfold mj at B;refine am I fun a I=>?_;cases B
 refine aG I Tryz.results136 (aw I rfl (aw I rfl aI)) ?_;exact rfl
def wq (c:ByteArray) (b:Int):=some ((aT.mk (c.size:Int) b))
def tz (b c:Int):Option (Fl (Int×Int) (Int)):=some (.go (c,IntKind.i64.wrap (b+1)))
def q8 (b c:Int):Option (Fl (Int×Int) (Int)):=some (.go (c,IntKind.i64.wrap (b-1)))
def lV (f:ByteArray) (e c b:Int):=cond (decide ((0:Int)<=b)) ((bu f.toList e).bind fun d=>gd (decide (0<=IntKind.u64.wrap b)) <| cond ((rI .u64 c 63:Int) != (IntKind.u64.wrap (wh .and .u8 (rI .u8 (d.toNat:Int) (IntKind.u64.wrap b)) 1))) (q8 b (wh .xor .u64 (Ag .u64 c 1) 4823603603198064275)) (q8 b (Ag .u64 c 1))) (some (.out c))
def oK (d:ByteArray) (c b:Int):=cond (decide (b<(d.size:Int))) ((loop (fun s:Int×Int=>lV d b s.1 s.2) (c,7)).bind fun r=>tz b r) (some (.out c))
def uz (b:ByteArray):=(loop (fun s:Int×Int=>oK b s.1 s.2) (18446744073709551615,0)).bind fun r=>wq b r
theorem BY (d:ByteArray) (y:aT) (B:uz d=some y):bg aR No 59 [a8 d] L (fun v w'=>v = .agg (oU y).toArray):=by
 refine en Tryz.func59 Tryz.ntmps59 hT fun a I=>?_;unfold uz at B;refine kA I AU fun b x a w O I=>?_;refine am I fun a I=>?_;refine aM (J:=fun a w=>∃ (f:Int),St L No T 37 [(0,a8 d),(2,pt b 0),(3,.int .u64 f)] [.box b [aj 0,.int .u64 0] 105] [] a w/\wq d f=some y) ?_ ?_
 ·refine am I fun a I=>?_;obtain⟨z,r,hMo1⟩:=bd B;refine bF _ (fun s a w=>∃ (h c:Int),(h,c)=s/\St L No T 37 [(0,a8 d),(2,pt b 0),(3,.int .u64 h),(4,aj c)] [.box b [aj 0,.int .u64 0] 105] [] a w) r ⟨_,_,rfl,I.mt [0] []⟩ ?_;rintro s a w p ⟨h,c,rfl,I⟩ B hf1;have B:oK d h c=some p:=B;unfold oK at B;refine aC ?_;refine am I fun a I=>?_;rcases cd B with⟨l,B⟩|⟨l,B⟩
  ·refine am I fun a I=>?_;refine aM (J:=fun a w=>∃ (i:Int),St L No T 37 [(0,a8 d),(2,pt b 0),(3,.int .u64 i),(4,aj c)] [.box b [aj 0,.int .u64 0] 105] [] a w/\tz c i=some p) ?_ ?_
   ·refine am I fun a I=>?_;obtain⟨A,t,hMo2⟩:=bd B;refine bF _ (fun s a w=>∃ (g e:Int),(g,e)=s/\St L No T 37 [(0,a8 d),(2,pt b 0),(3,.int .u64 g),(4,aj c),(5,aj e)] [.box b [aj 0,.int .u64 0] 105] [] a w) t ⟨_,_,rfl,I.mt [0] []⟩ ?_;rintro s a w q ⟨g,e,rfl,I⟩ B hf2;have B:lV d c g e=some q:=B;unfold lV at B;refine aC ?_;refine am I fun a I=>?_;rcases cd B with⟨m,B⟩|⟨m,B⟩
    ·refine am I fun a I=>?_;refine aM (J:=fun a w=>∃ (j:Int),St L No T 37 [(0,a8 d),(2,pt b 0),(3,.int .u64 j),(4,aj c),(5,aj e)] [.box b [aj 0,.int .u64 0] 105] [] a w/\q8 e j=some q) ?_ ?_
     ·refine am I fun a I=>?_;refine qy I (GD I rfl rfl rfl) fun a I=>?_;refine am I fun a I=>?_;obtain⟨u,k,B⟩:=bd B;refine qy I (Al I Tryz.underlying9 rfl rfl k) fun a I=>?_;refine am I fun a I=>?_;obtain⟨n,B⟩:=aW B;refine qy I (GD I rfl rfl n) fun a I=>?_;refine qy I (Ct I rfl rfl rfl) fun a I=>?_;refine am I fun a I=>?_;refine qy I (LS I rfl rfl rfl) fun a I=>?_;refine am I fun a I=>?_;rcases cd B with⟨o,B⟩|⟨o,B⟩
      ·refine am I fun a I=>?_;refine qy I (Ct I rfl rfl rfl) fun a I=>?_;exact fz
      exact fz
     rintro a w ⟨j,I,B⟩;unfold q8 at B;exact fz
    exact fz
   rintro a w ⟨i,I,B⟩;unfold tz at B;exact fz
  exact fz
 rintro a w ⟨f,I,B⟩;unfold wq at B;refine am I fun a I=>?_;refine qy I (bw (ps:=[(0,.tmp 34),(1,.tmp 35)]) I NV AU rfl (us:=[[aj (d.size:Int)],[.int .u64 f]]) ⟨rfl,⟨rfl,trivial⟩⟩ (ws:=[aj (d.size:Int),.int .u64 f]) rfl) fun a I=>?_;refine go I fun a w I=>?_;cases B
 refine aG I rfl (rC 0 I) ?_;exact rfl
def qn (b:(List aq)):=some (b)
def jY (b:Int) (c:(List aq)):Option (Fl ((List aq)×Int) ((List aq))):=some (.go (c,IntKind.i64.wrap (b+1)))
def jZ (c:(List aq)) (e:Int) (b:au) (g:Bool) (f:(List cz)):=cond g (gd (bP (c.length+([(aq.mk b.d f b.u b.j)]).length)) <| jY e (c++([(aq.mk b.d f b.u b.j)]))) (jY e c)
def gS (f:Int) (d:(List cz)) (b:ae) (g:(ByteArray×Bool)) (e:Bool):Option (Fl (Bool×Int×(List cz)) (Bool×(List cz))):=(uz g.1).bind fun c=>gd (bP (d.length+([(cz.mk b c)]).length)) <| some (.go (e,IntKind.i64.wrap (f+1),(d++([(cz.mk b c)]))))
def j2 (h:ah) (g:au) (f:Bool) (b:Int) (e:(List cz)):=cond (decide (b<(g.k.length:Int))) ((bu g.k b).bind fun c=>(rx h c).bind fun d=>cond f (gS b e c d d.2) (gS b e c d false)) (some (.out (f,e)))
def mU (d:ah) (e:(List aq)) (c:Int):=cond (decide (c<(d.s.length:Int))) ((bu d.s c).bind fun b=>(loop (fun s:Bool×Int×(List cz)=>j2 d b s.1 s.2.1 s.2.2) (b.t==d.r,0,([]:List cz))).bind fun r=>jZ e c b r.1 r.2) (some (.out e))
def nJ (b:ah):=(loop (fun s:(List aq)×Int=>mU b s.1 s.2) (([]:List aq),0)).bind fun r=>qn r
theorem A3 (c:ah) (D o:Value) (b3:aF ac T L D c.i) (b4:aF aa T L o c.s) (y:(List aq)) (B:nJ c=some y):bg aR No 75 [.agg (aU c D o).toArray] L (fun v w'=>∃ (v3:Value) (uZ:bI),v=v3/\gG ar T L w' [bv v3 uZ] 51 v3 uZ y):=by
 refine en Tryz.func75 Tryz.ntmps75 hT fun a I=>?_;replace I:=(I.fS (aF.dn b3)).fS (aF.dn b4);unfold nJ at B;refine kB I fun h bt a w O I=>?_;refine am I fun a I=>?_;refine aM (J:=fun a w=>∃ (S:(List aq)) (H:Value) (G:LV),St L No T 65 [(3,H)] [bv H G] [ap ar G S] a w/\qn S=some y) ?_ ?_
 ·refine am I fun a I=>?_;replace I:=I.zn ar 51 (by decide);obtain⟨r1,b1,hMo1⟩:=bd B;refine bF _ (fun s a w=>∃ (l:(List aq)) (g:Int) (n:Value) (m:LV),(l,g)=s/\St L No T 65 [(1,pt h 0),(3,n),(13,o),(14,aj (c.s.length:Int)),(15,aj g)] [bv n m,.box h (aU c D o) 25] [ap ar m l,aL aa o c.s,aL ac D c.i] a w) b1 ⟨_,_,_,_,rfl,I.mt [0,1] [0,1,2]⟩ ?_;rintro s a w Z ⟨l,g,n,m,rfl,I⟩ B hf1;have B:mU c l g=some Z:=B;unfold mU at B;refine am I fun a I=>?_;refine aC ?_;rcases cd B with⟨a5,B⟩|⟨a5,B⟩
  ·refine am I fun a I=>?_;refine aM (J:=fun a w=>∃ (V:(List aq)) (X:Value) (P:LV),St L No T 65 [(1,pt h 0),(3,X),(13,o),(14,aj (c.s.length:Int)),(15,aj g)] [bv X P,.box h (aU c D o) 25] [ap ar P V,aL aa o c.s,aL ac D c.i] a w/\jY g V=some Z) ?_ ?_
   ·refine am I fun a I=>?_;obtain⟨b,a0,B⟩:=bd B;refine wl rfl (bn (R:=aa) I mV j6 rfl rfl 1 rfl a0 rfl fun b5 c4 bb a9 a I=>?_);obtain⟨K,rfl,a4⟩:=a9;replace I:=I.fS a4;refine kA I eJ fun b6 c1 a w O I=>?_;refine go I fun a w I=>?_;refine qy I (bw (ps:=[(0,.tmp 20),(2,.tmp 22),(3,.tmp 24)]) I Q6 uT rfl (us:=[(aX b.d),[a8 b.u],[aj b.j]]) ⟨rfl,⟨rfl,⟨rfl,trivial⟩⟩⟩ (ws:=[aj b.d.v,a8 b.d.x,(.slice none 0 0),a8 b.u,aj b.j]) rfl) fun a I=>?_;refine ka I uT fun q c2 a w O I=>?_;refine go I fun a w I=>?_;refine aM (J:=fun a w=>∃ (M:Bool) (A:(List cz)) (t:Value) (Q:LV),St L No T 65 [(1,pt h 0),(3,n),(6,pt q 0),(7,.bool M),(13,o),(14,aj (c.s.length:Int)),(15,aj g)] [bv n m,.box h (aU c D o) 25,xT t Q,.box q [aj b.d.v,a8 b.d.x,t,a8 b.u,aj b.j] 51] [ap ar m l,aL aa o c.s,aL ac D c.i,ap bQ Q A] a w/\jZ l g b M A=some Z) ?_ ?_
    ·refine am I fun a I=>?_;replace I:=I.zn bQ 128 (by decide);obtain⟨r2,b2,hMo2⟩:=bd B;refine bF _ (fun s a w=>∃ (E:Bool) (r:Int) (p:(List cz)) (z:Value) (F:LV),(E,r,p)=s/\St L No T 65 [(1,pt h 0),(3,n),(6,pt q 0),(7,.bool E),(13,o),(14,aj (c.s.length:Int)),(15,aj g),(32,K),(33,aj (b.k.length:Int)),(34,aj r)] [bv n m,.box h (aU c D o) 25,xT z F,.box q [aj b.d.v,a8 b.d.x,z,a8 b.u,aj b.j] 51] [ap ar m l,aL aa o c.s,aL ad K b.k,aL ac D c.i,ap bQ F p] a w) b2 ⟨_,_,_,_,_,rfl,I.mt [3,4,0,1] [3,4,1,5,0]⟩ ?_;rintro s a w f2 ⟨E,r,p,z,F,rfl,I⟩ B hf2;have B:j2 c b E r p=some f2:=B;unfold j2 at B;refine am I fun a I=>?_;refine aC ?_;rcases cd B with⟨ab,B⟩|⟨ab,B⟩
     ·refine am I fun a I=>?_;refine aC ?_;refine am I fun a I=>?_;obtain⟨e,a1,B⟩:=bd B;refine wl rfl (bn (R:=ad) I j7 dB rfl rfl 2 rfl a1 rfl fun b7 c5 bi af a I=>?_);obtain rfl:=af;refine kA I fH fun Y c3 a w O I=>?_;refine go I fun a w I=>?_;obtain⟨W,a2,B⟩:=bd B;refine kF I PK (De _ _ I.dlt c e _ _ I.g4 I.g2 _ a2) fun w a I=>?_;refine aM (J:=fun a w=>∃ (N:Bool),St L No T 65 [(1,pt h 0),(3,n),(6,pt q 0),(7,.bool N),(9,pt Y 0),(10,a8 W.1),(13,o),(14,aj (c.s.length:Int)),(15,aj g),(32,K),(33,aj (b.k.length:Int)),(34,aj r)] [bv n m,.box h (aU c D o) 25,xT z F,.box q [aj b.d.v,a8 b.d.x,z,a8 b.u,aj b.j] 51,.box Y (aX e) 30] [ap ar m l,aL aa o c.s,aL ad K b.k,aL ac D c.i,ap bQ F p] a w/\gS r p e W N=some f2) ?_ ?_
      ·exact fz
      rintro a w ⟨N,I,B⟩;unfold gS at B;refine dr [(7,.blk (Value.ownBlock z)),(9,.blk (some q))] I fun w hQ I=>?_;refine gE [0,1,2,3] I fun a I=>?_;obtain⟨f,a3,B⟩:=bd B;refine ec 4 I QL (BY _ _ I.dlt W.1 _ a3) fun _ w C a O U=>?_;obtain rfl:=C;have I:=eL U;refine dq 5 I (v:=.agg #[aj e.v,a8 e.x,aj f.k1,.int .u64 f.v1]) (bw (ps:=[(0,.tmp 50),(1,.tmp 52)]) I NW AV rfl (us:=[(aX e),(oU f)]) ⟨rfl,⟨rfl,trivial⟩⟩ (ws:=[aj e.v,a8 e.x,aj f.k1,.int .u64 f.v1]) rfl) fun a I=>?_;refine e1 6 (bf (ps:=[(0,.tmp 53)]) I Kp AV (zl:=[aj 0,a8 cp,aj 0,.int .u64 0]) (by kernel_rfl) rfl (us:=[[aj e.v,a8 e.x,aj f.k1,.int .u64 f.v1]]) ⟨rfl,trivial⟩ (ws:=[aj e.v,a8 e.x,aj f.k1,.int .u64 f.v1]) rfl rfl rfl rfl fun b8 a w O I=>⟨fq (O),?_⟩);replace I:=(I.lit (R:=bQ) (us:=[aj e.v,a8 e.x,aj f.k1,.int .u64 f.v1]) (xs:=[(cz.mk e f)]) 0 rfl (by decide) (aP (R:=bQ) (x:=(cz.mk e f)) rfl) rfl rfl).zf (R:=bQ) 0 rfl 0 rfl;obtain⟨ag,B⟩:=aW B;refine e1 7 (bG (R:=bQ) (xs:=p) (ys:=[(cz.mk e f)]) I Kp (by decide) (by decide) rfl rfl 2 rfl 6 rfl 0 rfl ag rfl fun c9 bl a w O I=>⟨jf rfl O kO,?_⟩);refine gE [8] I fun a I=>?_;refine es 9 I fun w I=>?_;refine eD ?_;exact fz
     refine am I fun a I=>?_;cases B
     have hr:=hf2 _ rfl;subst hr;have B:jZ l g b E p=some Z:=hMo2;exact fin
    rintro a w ⟨M,A,t,Q,I,B⟩;unfold jZ at B;refine am I fun a I=>?_;rcases cd B with⟨ak,B⟩|⟨ak,B⟩
    ·refine am I fun a I=>?_;refine wl rfl (bf (ps:=[(0,.tmp 60)]) I sF uT (zl:=[aj 0,a8 cp,.slice none 0 0,a8 cp,aj 0]) (by kernel_rfl) rfl (us:=[[aj b.d.v,a8 b.d.x,t,a8 b.u,aj b.j]]) ⟨rfl,trivial⟩ (ws:=[aj b.d.v,a8 b.d.x,t,a8 b.u,aj b.j]) rfl rfl rfl rfl fun b9 a w O I=>?_);replace I:=I.zf (R:=bQ) 3 rfl 3 rfl;replace I:=(I.lit (R:=ar) (us:=[aj b.d.v,a8 b.d.x,t,a8 b.u,aj b.j]) (xs:=[(aq.mk b.d A b.u b.j)]) 0 rfl (by decide) (aP (R:=ar) (x:=(aq.mk b.d A b.u b.j)) (⟨_,rfl,I.g0⟩)) rfl rfl).zf (R:=ar) 0 rfl 0 rfl;obtain⟨ao,B⟩:=aW B;refine wl rfl (bG (R:=ar) (xs:=l) (ys:=[(aq.mk b.d A b.u b.j)]) I sF (by decide) (by decide) rfl rfl 0 rfl 3 rfl 0 rfl ao rfl fun ca bs a w O I=>?_);exact fz
    exact fz
   rintro a w ⟨V,X,P,I,B⟩;unfold jY at B;exact fz
  exact fz
 rintro a w ⟨S,H,G,I,B⟩;unfold qn at B;refine am I fun a I=>?_;cases B
 refine aG I rfl (aw I rfl aI) ?_;exact⟨H,G,rfl,I.zo ⟨.inr (aO (i:=0) rfl),trivial⟩ 0 rfl 0 rfl⟩
def cQ (b:Bool):=some (b)
def eF (b:aq):=(dz b.d).bind fun c=>cond c ((cu b.d).bind fun e=>cond (!(e)) (cond (decide (((b.u.size:Int):Int)<=1073741824)) (cond (decide ((1:Int)<=b.j)) (cQ (decide (b.j<=1073741824))) (cQ false)) (cQ false)) (cQ false)) (cQ false)
def eG (e:aq) (b:Int):Option (Fl (Int) (Fl (Unit) Bool)):=cond (decide (b<(e.k.length:Int))) ((bu e.k b).bind fun c=>(dz c.d).bind fun f=>cond (!(f)) (some (.out (.out false))) (cond (decide (c.d1.k1<0)) (some (.out (.out false))) (some (.go (IntKind.i64.wrap (b+1)))))) (some (.out (.go ())))
def dO (b:aq):=(loop (fun s:Int=>eG b s) 0).bind fun r=>Fl.el r (fun s=>eF b) (fun y=>some (y))
theorem pX (b:aq) (g:Value) (r:aF bQ T L g b.k) (y:Bool) (B:dO b=some y):bg aR No 82 [.agg (bq b g).toArray] L (fun v w'=>v = .bool y):=by
 refine en Tryz.func82 Tryz.ntmps82 hT fun a I=>?_;replace I:=I.fS (aF.dn r);unfold dO at B;refine kB I fun c A a w O I=>?_;refine am I fun a I=>?_;refine aM (J:=fun a w=>St L No T 48 [(1,pt c 0)] [.box c (bq b g) 51] [aL bQ g b.k] a w/\eF b=some y) ?_ ?_
 ·refine am I fun a I=>?_;obtain⟨K,q,hMo1⟩:=bd B;refine bF _ (fun s a w=>∃ (e:Int),e=s/\St L No T 48 [(1,pt c 0),(6,g),(7,aj (b.k.length:Int)),(8,aj e)] [.box c (bq b g) 51] [aL bQ g b.k] a w) q ⟨_,rfl,I.mt [0] [0]⟩ ?_;rintro s a w z ⟨e,rfl,I⟩ B hf1;have B:eG b e=some z:=B;unfold eG at B;refine am I fun a I=>?_;refine aC ?_;rcases cd B with⟨o,B⟩|⟨o,B⟩
  ·refine am I fun a I=>?_;refine aC ?_;refine am I fun a I=>?_;obtain⟨n,i,B⟩:=bd B;refine wl rfl (bn (R:=bQ) I Jy DW rfl rfl 0 rfl i rfl fun t E x p a I=>?_);obtain rfl:=p;refine kA I AV fun u D a w O I=>?_;refine go I fun a w I=>?_;refine io ?_;refine am I fun a I=>?_;obtain⟨H,m,B⟩:=bd B;refine kE I He (jl _ _ I.dlt n.d _ m) fun w a I=>?_;exact fz
  exact fz
 rintro a w ⟨I,B⟩;unfold eF at B;refine aM (J:=fun a w=>∃ (f:Bool),St L No T 48 [(2,.bool f)] [] [] a w/\cQ f=some y) ?_ ?_
 ·refine am I fun a I=>?_;obtain⟨F,j,B⟩:=bd B;refine kF I He (jl _ _ I.dlt b.d _ j) fun w a I=>?_;rcases cd B with⟨h,B⟩|⟨h,B⟩
  ·refine am I fun a I=>?_;obtain⟨G,l,B⟩:=bd B;refine wg I rfl rfl rfl h (bB I yx rfl rfl (da _ _ I.dlt b.d _ l) fun _ w C a O U=>?_);obtain rfl:=C;have I:=eL U;exact fz
  exact fz
 rintro a w ⟨f,I,B⟩;unfold cQ at B;exact fz
def nX (b:LN):=some ((JD b))
def nY (d:Int) (c:LN) (b:Int):Option (Fl (LN×Int) (LN)):=cond (decide ((0:Int)<=b)) (gd (decide (0<=IntKind.u64.wrap b)) <| gd (bP (c.length+([IntKind.u8.wrap (rI .u64 d (IntKind.u64.wrap b))]).length)) <| some (.go ((c++([IntKind.u8.wrap (rI .u64 d (IntKind.u64.wrap b))])),IntKind.i64.wrap (b-8)))) (some (.out c))
def iV (b:Int):=(loop (fun s:LN×Int=>nY b s.1 s.2) (([]:List Int),56)).bind fun r=>nX r
theorem pp (c:Int) (y:ByteArray) (B:iV c=some y):bg aR No 127 [.int .u64 c] L (fun v w'=>v=a8 y):=by
 refine en Tryz.func127 Tryz.ntmps127 hT fun a I=>?_;unfold iV at B;refine am I fun a I=>?_;refine aM (J:=fun a w=>∃ (e:LN) (i:Value) (f:LV),St L No T 19 [(3,i)] [.own i 5 (a6.int .u8).size f] [ap (a6.int .u8) f e] a w/\nX e=some y) ?_ ?_
 ·refine am I fun a I=>?_;replace I:=I.zn (a6.int .u8) 5 (by decide);obtain⟨t,n,hMo1⟩:=bd B;refine bF _ (fun s a w=>∃ (d:LN) (b:Int) (j:Value) (g:LV),(d,b)=s/\St L No T 19 [(0,.int .u64 c),(3,j),(4,aj b)] [.own j 5 (a6.int .u8).size g] [ap (a6.int .u8) g d] a w) n ⟨_,_,_,_,rfl,I.mt [0] [0]⟩ ?_;rintro s a w q ⟨d,b,j,g,rfl,I⟩ B hf1;have B:nY c d b=some q:=B;unfold nY at B;refine aC ?_;refine am I fun a I=>?_;rcases cd B with⟨k,B⟩|⟨k,B⟩
  ·refine am I fun a I=>?_;refine aC ?_;refine am I fun a I=>?_;obtain⟨l,B⟩:=aW B;refine qy I (GD I rfl rfl l) fun a I=>?_;refine am I fun a I=>?_;refine wl rfl (bf (ps:=[(0,.tmp 14)]) I QP SN (zl:=[.int .u8 0]) (by kernel_rfl) rfl (us:=[[.int .u8 (IntKind.u8.wrap (rI .u64 c (IntKind.u64.wrap b)))]]) ⟨rfl,trivial⟩ (ws:=[.int .u8 (IntKind.u8.wrap (rI .u64 c (IntKind.u64.wrap b)))]) rfl rfl rfl rfl fun o a w O I=>?_);replace I:=(I.lit (R:=(a6.int .u8)) (us:=[.int .u8 (IntKind.u8.wrap (rI .u64 c (IntKind.u64.wrap b)))]) (xs:=[IntKind.u8.wrap (rI .u64 c (IntKind.u64.wrap b))]) 0 rfl (by decide) (aP (R:=(a6.int .u8)) (x:=IntKind.u8.wrap (rI .u64 c (IntKind.u64.wrap b))) rfl) rfl rfl).zf (R:=(a6.int .u8)) 0 rfl 0 rfl;obtain⟨m,B⟩:=aW B;refine wl rfl (bG (R:=(a6.int .u8)) (xs:=d) (ys:=[IntKind.u8.wrap (rI .u64 c (IntKind.u64.wrap b))]) I QP (by decide) (by decide) rfl rfl 0 rfl 2 rfl 0 rfl m rfl fun r p a w O I=>?_);exact fz
  exact fz
 rintro a w ⟨e,i,f,I,B⟩;unfold nX at B;refine am I fun a I=>?_;refine qy I (OS I rfl Tryz.underlying61 Tryz.underlying5 Tryz.underlying9 0 rfl 0 rfl (fun _ _ h=>h)) fun a I=>?_;exact fz
def mT (c:Int):=(iV (IntKind.u64.wrap c)).bind fun b=>some (b)
theorem ru (b:Int) (y:ByteArray) (B:mT b=some y):bg aR No 54 [aj b] L (fun v w'=>v=a8 y):=by
 refine en Tryz.func54 Tryz.ntmps54 hT fun a I=>?_;unfold mT at B;refine am I fun a I=>?_;obtain⟨d,c,B⟩:=bd B;refine kE I H5 (pp _ _ I.dlt (IntKind.u64.wrap b) _ c) fun w a I=>?_;exact fz
def sm (b:ByteArray):=(iV (IntKind.u64.wrap (b.size:Int))).bind fun c=>gd (Nat.ble (c.size+b.size) 140737488355328) <| some ((c++b))
theorem AI (b y:ByteArray) (B:sm b=some y):bg aR No 56 [a8 b] L (fun v w'=>v=a8 y):=by
 refine en Tryz.func56 Tryz.ntmps56 hT fun a I=>?_;unfold sm at B;refine am I fun a I=>?_;obtain⟨e,c,B⟩:=bd B;refine kF I H5 (pp _ _ I.dlt (IntKind.u64.wrap (b.size:Int)) _ c) fun w a I=>?_;obtain⟨d,B⟩:=aW B;refine qy I (wI I rfl rfl (fm d)) fun a I=>?_;exact fz
def sj (d:ae):=(mT d.v).bind fun b=>(sm d.x).bind fun c=>gd (Nat.ble (b.size+c.size) 140737488355328) <| some ((b++c))
theorem AH (b:ae) (y:ByteArray) (B:sj b=some y):bg aR No 55 [.agg (aX b).toArray] L (fun v w'=>v=a8 y):=by
 refine en Tryz.func55 Tryz.ntmps55 hT fun a I=>?_;unfold sj at B;refine kB I fun h i a w O I=>?_;refine am I fun a I=>?_;refine aC ?_;refine dr [] I fun w hQ I=>?_;refine gE [0,1,3,4] I fun a I=>?_;obtain⟨f,c,B⟩:=bd B;refine ec 2 I Kh (ru _ _ I.dlt b.v _ c) fun _ w C a O U=>?_;obtain rfl:=C;have I:=eL U;obtain⟨g,d,B⟩:=bd B;refine ec 5 I QJ (AI _ _ I.dlt b.x _ d) fun _ w C a O U=>?_;obtain rfl:=C;have I:=eL U;obtain⟨e,B⟩:=aW B;refine dq 6 I (v:=a8 (f++g)) (wI I rfl rfl (fm e)) fun a I=>?_;refine gE [7] I fun a I=>?_;refine eD ?_;exact fz
def oJ (d:aT):=(iV (IntKind.u64.wrap d.k1)).bind fun b=>(iV d.v1).bind fun c=>gd (Nat.ble (b.size+c.size) 140737488355328) <| some ((b++c))
theorem xv (b:aT) (y:ByteArray) (B:oJ b=some y):bg aR No 58 [.agg (oU b).toArray] L (fun v w'=>v=a8 y):=by
 refine en Tryz.func58 Tryz.ntmps58 hT fun a I=>?_;unfold oJ at B;refine kB I fun h i a w O I=>?_;refine am I fun a I=>?_;refine aC ?_;refine dr [] I fun w hQ I=>?_;refine gE [0,1,2,4,5] I fun a I=>?_;obtain⟨f,c,B⟩:=bd B;refine ec 3 I H5 (pp _ _ I.dlt (IntKind.u64.wrap b.k1) _ c) fun _ w C a O U=>?_;obtain rfl:=C;have I:=eL U;obtain⟨g,d,B⟩:=bd B;refine ec 6 I H5 (pp _ _ I.dlt b.v1 _ d) fun _ w C a O U=>?_;obtain rfl:=C;have I:=eL U;obtain⟨e,B⟩:=aW B;refine dq 7 I (v:=a8 (f++g)) (wI I rfl rfl (fm e)) fun a I=>?_;refine gE [8] I fun a I=>?_;refine eD ?_;exact fz
def s9 (b:ByteArray):=(uz b).bind fun d=>(oJ d).bind fun c=>gd (Nat.ble (b.size+c.size) 140737488355328) <| some ((b++c))
theorem EU (b y:ByteArray) (B:s9 b=some y):bg aR No 57 [a8 b] L (fun v w'=>v=a8 y):=by
 refine en Tryz.func57 Tryz.ntmps57 hT fun a I=>?_;unfold s9 at B;refine am I fun a I=>?_;obtain⟨f,c,B⟩:=bd B;refine kE I QL (BY _ _ I.dlt b _ c) fun w a I=>?_;obtain⟨g,d,B⟩:=bd B;refine kE I QK (xv _ _ I.dlt f _ d) fun w a I=>?_;obtain⟨e,B⟩:=aW B;refine qy I (wI I rfl rfl (fm e)) fun a I=>?_;exact fz
def il (b:ByteArray):=(s9 b).bind fun c=>some (c)
def kw (b:Int) (c:ByteArray):Option (Fl (ByteArray×Int) (Fl (ByteArray) ByteArray)):=some (.go (c,IntKind.i64.wrap (b+1)))
def kx (f:Int) (d:aq) (e:ByteArray):=(sm d.u).bind fun b=>(mT d.j).bind fun c=>gd (Nat.ble (b.size+c.size) 140737488355328) <| gd (Nat.ble (e.size+(b++c).size) 140737488355328) <| kw f (e++(b++c))
def kz (g:aq) (c:ByteArray) (b:Int):Option (Fl (ByteArray×Int) (ByteArray)):=cond (decide (b<(g.k.length:Int))) ((bu g.k b).bind fun h=>(sj h.d).bind fun e=>(oJ h.d1).bind fun f=>gd (Nat.ble (e.size+f.size) 140737488355328) <| gd (Nat.ble (c.size+(e++f).size) 140737488355328) <| some (.go ((c++(e++f)),IntKind.i64.wrap (b+1)))) (some (.out c))
def kC (h:(List aq)) (e:ByteArray) (c:Int):=cond (decide (c<(h.length:Int))) ((bu h c).bind fun b=>(dO b).bind fun i=>cond (!(i)) (some (.out (.out cp))) ((sj b.d).bind fun f=>(mT (b.k.length:Int)).bind fun g=>gd (Nat.ble (f.size+g.size) 140737488355328) <| gd (Nat.ble (e.size+(f++g).size) 140737488355328) <| (loop (fun s:ByteArray×Int=>kz b s.1 s.2) ((e++(f++g)),0)).bind fun r=>kx c b r)) (some (.out (.go e)))
def iM (b:(List aq)):=cond (decide ((4000:Int)<(b.length:Int))) (some (cp)) ((mT 12).bind fun c=>(mT (b.length:Int)).bind fun d=>gd (Nat.ble (c.size+d.size) 140737488355328) <| (loop (fun s:ByteArray×Int=>kC b s.1 s.2) ((c++d),0)).bind fun r=>Fl.el r (fun s=>il s) (fun y=>some (y)))
theorem fO (e:(List aq)) (i:Value) (b1:aF ar T L i e) (y:ByteArray) (B:iM e=some y):bg aR No 22 [i] L (fun v w'=>v=a8 y):=by
 refine en Tryz.func22 Tryz.ntmps22 hT fun a I=>?_;replace I:=I.fS (aF.dn b1);unfold iM at B;refine am I fun a I=>?_;refine aC ?_;refine am I fun a I=>?_;rcases cd B with⟨Z,B⟩|⟨Z,B⟩
 ·exact fz
 refine am I fun a I=>?_;obtain⟨bt,V,B⟩:=bd B;refine kF I Kh (ru _ _ I.dlt 12 _ V) fun w a I=>?_;obtain⟨c1,W,B⟩:=bd B;refine kE I Kh (ru _ _ I.dlt (e.length:Int) _ W) fun w a I=>?_;obtain⟨a0,B⟩:=aW B;refine qy I (wI I rfl rfl (fm a0)) fun a I=>?_;refine am I fun a I=>?_;refine aM (J:=fun a w=>∃ (n:ByteArray),St L No T 64 [(3,a8 n)] [] [] a w/\il n=some y) ?_ ?_
 ·refine am I fun a I=>?_;obtain⟨r1,av,hMo1⟩:=bd B;refine bF _ (fun s a w=>∃ (g:ByteArray) (c:Int),(g,c)=s/\St L No T 64 [(3,a8 g),(16,i),(17,aj (e.length:Int)),(18,aj c)] [] [aL ar i e] a w) av ⟨_,_,rfl,I.mt [] [0]⟩ ?_;rintro s a w Y ⟨g,c,rfl,I⟩ B hf1;have B:kC e g c=some Y:=B;unfold kC at B;refine am I fun a I=>?_;refine aC ?_;rcases cd B with⟨a1,B⟩|⟨a1,B⟩
  ·refine am I fun a I=>?_;refine aM (J:=fun a w=>∃ (p:ByteArray),St L No T 64 [(3,a8 p),(16,i),(17,aj (e.length:Int)),(18,aj c)] [] [aL ar i e] a w/\kw c p=some Y) ?_ ?_
   ·refine am I fun a I=>?_;obtain⟨b,E,B⟩:=bd B;refine wl rfl (bn (R:=ar) I ya uM rfl rfl 0 rfl E rfl fun b2 bb b5 a2 a I=>?_);obtain⟨h,rfl,X⟩:=a2;replace I:=I.fS X;refine kA I uT fun l b8 a w O I=>?_;refine go I fun a w I=>?_;refine aC ?_;refine am I fun a I=>?_;obtain⟨bs,P,B⟩:=bd B;refine kF I QM (pX _ _ I.dlt b _ I.g0 _ P) fun w a I=>?_;rcases cd B with⟨a3,B⟩|⟨a3,B⟩
    ·exact fz
    refine am I fun a I=>?_;refine aC ?_;refine dr [] I fun w hQ I=>?_;refine gE [0,1,2,4,5,6] I fun a I=>?_;obtain⟨A,Q,B⟩:=bd B;refine ec 3 I QI (AH _ _ I.dlt b.d _ Q) fun _ w C a O U=>?_;obtain rfl:=C;have I:=eL U;obtain⟨D,S,B⟩:=bd B;refine ec 7 I Kh (ru _ _ I.dlt (b.k.length:Int) _ S) fun _ w C a O U=>?_;obtain rfl:=C;have I:=eL U;obtain⟨a4,B⟩:=aW B;refine dq 8 I (v:=a8 (A++D)) (wI I rfl rfl (fm a4)) fun a I=>?_;obtain⟨a5,B⟩:=aW B;refine dq 9 I (v:=a8 (g++(A++D))) (wI I rfl rfl (fm a5)) fun a I=>?_;refine gE [10] I fun a I=>?_;refine eD ?_;refine am I fun a I=>?_;refine aM (J:=fun a w=>∃ (o:ByteArray),St L No T 64 [(3,a8 o),(5,pt l 0),(16,i),(17,aj (e.length:Int)),(18,aj c)] [.box l (bq b h) 51] [aL ar i e,aL bQ h b.k] a w/\kx c b o=some Y) ?_ ?_
    ·refine am I fun a I=>?_;obtain⟨r2,b0,hMo2⟩:=bd B;refine bF _ (fun s a w=>∃ (f:ByteArray) (m:Int),(f,m)=s/\St L No T 64 [(3,a8 f),(5,pt l 0),(16,i),(17,aj (e.length:Int)),(18,aj c),(36,h),(37,aj (b.k.length:Int)),(38,aj m)] [.box l (bq b h) 51] [aL ar i e,aL bQ h b.k] a w) b0 ⟨_,_,rfl,I.mt [0] [2,0]⟩ ?_;rintro s a w f2 ⟨f,m,rfl,I⟩ B hf2;have B:kz b f m=some f2:=B;unfold kz at B;refine am I fun a I=>?_;refine aC ?_;rcases cd B with⟨a9,B⟩|⟨a9,B⟩
     ·refine am I fun a I=>?_;refine aC ?_;refine am I fun a I=>?_;obtain⟨q,F,B⟩:=bd B;refine wl rfl (bn (R:=bQ) I Jy DW rfl rfl 1 rfl F rfl fun b3 bi b6 ab a I=>?_);obtain rfl:=ab;refine kA I AV fun b4 b9 a w O I=>?_;refine go I fun a w I=>?_;refine dr [] I fun w hQ I=>?_;refine gE [0,1,2,4,5] I fun a I=>?_;obtain⟨x,M,B⟩:=bd B;refine ec 3 I QI (AH _ _ I.dlt q.d _ M) fun _ w C a O U=>?_;obtain rfl:=C;have I:=eL U;obtain⟨z,N,B⟩:=bd B;refine ec 6 I QK (xv _ _ I.dlt q.d1 _ N) fun _ w C a O U=>?_;obtain rfl:=C;have I:=eL U;obtain⟨af,B⟩:=aW B;refine dq 7 I (v:=a8 (x++z)) (wI I rfl rfl (fm af)) fun a I=>?_;obtain⟨ag,B⟩:=aW B;refine dq 8 I (v:=a8 (f++(x++z))) (wI I rfl rfl (fm ag)) fun a I=>?_;refine gE [9] I fun a I=>?_;refine eD ?_;exact fz
     exact fz
    rintro a w ⟨o,I,B⟩;unfold kx at B;refine dr [] I fun w hQ I=>?_;refine gE [0,1,2,4,5] I fun a I=>?_;obtain⟨r,H,B⟩:=bd B;refine ec 3 I QJ (AI _ _ I.dlt b.u _ H) fun _ w C a O U=>?_;obtain rfl:=C;have I:=eL U;obtain⟨t,K,B⟩:=bd B;refine ec 6 I Kh (ru _ _ I.dlt b.j _ K) fun _ w C a O U=>?_;obtain rfl:=C;have I:=eL U;obtain⟨ak,B⟩:=aW B;refine dq 7 I (v:=a8 (r++t)) (wI I rfl rfl (fm ak)) fun a I=>?_;obtain⟨ao,B⟩:=aW B;refine dq 8 I (v:=a8 (o++(r++t))) (wI I rfl rfl (fm ao)) fun a I=>?_;refine gE [9] I fun a I=>?_;refine eD ?_;exact fin
   rintro a w ⟨p,I,B⟩;unfold kw at B;exact fz
  exact fz
 rintro a w ⟨n,I,B⟩;unfold il at B;refine am I fun a I=>?_;obtain⟨bl,G,B⟩:=bd B;refine kE I RH (EU _ _ I.dlt n _ G) fun w a I=>?_;exact fz
def vx (b:Int):=some (b)
def so (c e:aq):=(jN c.d e.d).bind fun b=>cond (b != 0) (some (b)) ((iM ([c])).bind fun f=>(iM ([e])).bind fun g=>(r8 f g).bind fun h=>vx h)
theorem AJ (hLv:dh T L) (c b:aq) (l h:Value) (z:aF bQ T L l c.k) (A:aF bQ T L h b.k) (y:Int) (B:so c b=some y):bg aR No 134 [.agg (bq c l).toArray,.agg (bq b h).toArray] L (fun v w'=>v=aj y):=by
 refine en Tryz.func134 Tryz.ntmps134 hT fun a I=>?_;replace I:=((I.fact bH (dh.dn hLv)).fS (aF.dn z)).fS (aF.dn A);unfold so at B;refine kB I fun D K a w O I=>?_;refine kb I fun E M a w O I=>?_;refine am I fun a I=>?_;refine aC ?_;refine am I fun a I=>?_;obtain⟨N,q,B⟩:=bd B;refine kF I Hf (lQ _ _ I.dlt I.g2 c.d b.d _ q) fun w a I=>?_;rcases cd B with⟨t,B⟩|⟨t,B⟩
 ·exact fz
 refine am I fun a I=>?_;refine aM (J:=fun a w=>∃ (m:Int),St L No T 21 [(4,aj m)] [] [bH] a w/\vx m=some y) ?_ ?_
 ·refine dr [] I fun w hQ I=>?_;refine gE [0,3] I fun a I=>?_;refine dQ (i:=1) (j:=4) rfl rfl (by kernel_rfl) rfl rfl ?_ ?_
  ·skip;refine id (bf (ps:=[(0,.tmp 14)]) I sF uT (zl:=[aj 0,a8 cp,.slice none 0 0,a8 cp,aj 0]) (by kernel_rfl) rfl (us:=[(bq c l)]) ⟨rfl,trivial⟩ (ws:=(bq c l)) rfl rfl rfl rfl fun s a w O I=>⟨fq (O),?_⟩);replace I:=I.lit (R:=ar) (us:=(bq c l)) (xs:=[c]) 0 rfl (by decide) (aP (R:=ar) (x:=c) (⟨_,rfl,I.g1⟩)) rfl rfl;have hL:=I;replace hL:=hL.zf (R:=ar) 0 rfl 0 rfl;obtain⟨o,n,B⟩:=bd B;refine dQ (i:=2) (j:=4) rfl rfl (by kernel_rfl) rfl rfl ?_ ?_
   ·skip;have hL:=I;replace hL:=hL.zf (R:=ar) 0 rfl 0 rfl;refine id (bB I I1 rfl rfl (fO _ _ hL.dlt ([c]) _ hL.g0 _ n) fun _ w C a O U=>⟨fq (O),?_⟩);obtain rfl:=C;have I:=eL U;refine e1 4 (bf (ps:=[(0,.tmp 17)]) I sF uT (zl:=[aj 0,a8 cp,.slice none 0 0,a8 cp,aj 0]) (by kernel_rfl) rfl (us:=[(bq b h)]) ⟨rfl,trivial⟩ (ws:=(bq b h)) rfl rfl rfl rfl fun F a w O I=>⟨fq (O),?_⟩);replace I:=I.lit (R:=ar) (us:=(bq b h)) (xs:=[b]) 0 rfl (by decide) (aP (R:=ar) (x:=b) (⟨_,rfl,I.g1⟩)) rfl rfl;have hL:=I;replace hL:=hL.zf (R:=ar) 0 rfl 0 rfl;obtain⟨g,e,B⟩:=bd B;refine ec 5 I I1 (fO _ _ hL.dlt ([b]) _ hL.g0 _ e) fun _ w C a O U=>?_;obtain rfl:=C;have I:=eL U;obtain⟨p,f,B⟩:=bd B;refine ec 6 I Fr (qR _ _ I.dlt I.g4 o g _ f) fun _ w C a O U=>?_;obtain rfl:=C;have I:=eL U;refine gE [7] I fun a I=>?_;refine eD ?_;exact fin
   skip;refine id (bf (ps:=[(0,.tmp 17)]) I sF uT (zl:=[aj 0,a8 cp,.slice none 0 0,a8 cp,aj 0]) (by kernel_rfl) rfl (us:=[(bq b h)]) ⟨rfl,trivial⟩ (ws:=(bq b h)) rfl rfl rfl rfl fun G a w O I=>⟨fq (O),?_⟩);have hL:=I;replace hL:=hL.zf (R:=ar) 1 rfl 0 rfl;refine ec 2 I I1 (fO _ _ hL.dlt ([c]) _ hL.g0 _ n) fun _ w C a O U=>?_;obtain rfl:=C;have I:=eL U;replace I:=I.lit (R:=ar) (us:=(bq b h)) (xs:=[b]) 0 rfl (by decide) (aP (R:=ar) (x:=b) (⟨_,rfl,I.g1⟩)) rfl rfl;have hL:=I;replace hL:=hL.zf (R:=ar) 0 rfl 0 rfl;obtain⟨g,e,B⟩:=bd B;refine ec 5 I I1 (fO _ _ hL.dlt ([b]) _ hL.g0 _ e) fun _ w C a O U=>?_;obtain rfl:=C;have I:=eL U;obtain⟨p,f,B⟩:=bd B;refine ec 6 I Fr (qR _ _ I.dlt I.g4 o g _ f) fun _ w C a O U=>?_;obtain rfl:=C;have I:=eL U;refine gE [7] I fun a I=>?_;refine eD ?_;exact fin
  skip;refine id (bf (ps:=[(0,.tmp 17)]) I sF uT (zl:=[aj 0,a8 cp,.slice none 0 0,a8 cp,aj 0]) (by kernel_rfl) rfl (us:=[(bq b h)]) ⟨rfl,trivial⟩ (ws:=(bq b h)) rfl rfl rfl rfl fun s a w O I=>⟨fq (O),?_⟩);refine e1 1 (bf (ps:=[(0,.tmp 14)]) I sF uT (zl:=[aj 0,a8 cp,.slice none 0 0,a8 cp,aj 0]) (by kernel_rfl) rfl (us:=[(bq c l)]) ⟨rfl,trivial⟩ (ws:=(bq c l)) rfl rfl rfl rfl fun H a w O I=>⟨fq (O),?_⟩);replace I:=I.lit (R:=ar) (us:=(bq c l)) (xs:=[c]) 0 rfl (by decide) (aP (R:=ar) (x:=c) (⟨_,rfl,I.g1⟩)) rfl rfl;have hL:=I;replace hL:=hL.zf (R:=ar) 0 rfl 0 rfl;obtain⟨u,r,B⟩:=bd B;refine ec 2 I I1 (fO _ _ hL.dlt ([c]) _ hL.g0 _ r) fun _ w C a O U=>?_;obtain rfl:=C;have I:=eL U;replace I:=I.lit (R:=ar) (us:=(bq b h)) (xs:=[b]) 1 rfl (by decide) (aP (R:=ar) (x:=b) (⟨_,rfl,I.g1⟩)) rfl rfl;have hL:=I;replace hL:=hL.zf (R:=ar) 1 rfl 0 rfl;obtain⟨g,e,B⟩:=bd B;refine ec 5 I I1 (fO _ _ hL.dlt ([b]) _ hL.g0 _ e) fun _ w C a O U=>?_;obtain rfl:=C;have I:=eL U;obtain⟨p,f,B⟩:=bd B;refine ec 6 I Fr (qR _ _ I.dlt I.g4 u g _ f) fun _ w C a O U=>?_;obtain rfl:=C;have I:=eL U;refine gE [7] I fun a I=>?_;refine eD ?_;exact fin
 rintro a w ⟨m,I,B⟩;unfold vx at B;exact fz
def kD (b:(List aq)):=some (b)
def dL (f e:(List aq)) (c:Int):Option (Fl ((List aq)×Int) ((List aq))):=cond (decide (c<(f.length:Int))) ((bu f c).bind fun b=>gd (bP (([]:List cz).length+b.k.length)) <| gd (bP (e.length+([(aq.mk b.d (([]:List cz)++b.k) b.u b.j)]).length)) <| some (.go ((e++([(aq.mk b.d (([]:List cz)++b.k) b.u b.j)])),IntKind.i64.wrap (c+1)))) (some (.out e))
def gv (b:(List aq)):=(loop (fun s:(List aq)×Int=>dL b s.1 s.2) (([]:List aq),0)).bind fun r=>kD r
theorem vX (h:(List aq)) (r:Value) (G:aF ar T L r h) (y:(List aq)) (B:gv h=some y):bg aR No 135 [r] L (fun v w'=>∃ (E:Value) (rN:bI),v=E/\gG ar T L w' [bv E rN] 51 E rN y):=by
 refine en Tryz.func135 Tryz.ntmps135 hT fun a I=>?_;replace I:=I.fS (aF.dn G);unfold gv at B;refine am I fun a I=>?_;refine aM (J:=fun a w=>∃ (m:(List aq)) (g:Value) (e:LV),St L No T 22 [(3,g)] [bv g e] [ap ar e m] a w/\kD m=some y) ?_ ?_
 ·refine am I fun a I=>?_;replace I:=I.zn ar 51 (by decide);obtain⟨Z,F,hMo1⟩:=bd B;refine bF _ (fun s a w=>∃ (c:(List aq)) (f:Int) (n:Value) (l:LV),(c,f)=s/\St L No T 22 [(3,n),(6,r),(7,aj (h.length:Int)),(8,aj f)] [bv n l] [ap ar l c,aL ar r h] a w) F ⟨_,_,_,_,rfl,I.mt [0] [0,1]⟩ ?_;rintro s a w S ⟨c,f,n,l,rfl,I⟩ B hf1;have B:dL h c f=some S:=B;unfold dL at B;refine am I fun a I=>?_;refine aC ?_;rcases cd B with⟨t,B⟩|⟨t,B⟩
  ·refine am I fun a I=>?_;refine aC ?_;refine am I fun a I=>?_;obtain⟨b,p,B⟩:=bd B;refine wl rfl (bn (R:=ar) I ya uM rfl rfl 1 rfl p rfl fun H W N z a I=>?_);obtain⟨X,rfl,q⟩:=z;replace I:=I.fS q;refine kA I uT fun K V a w O I=>?_;refine go I fun a w I=>?_;replace I:=I.zn bQ 128 (by decide);obtain⟨A,B⟩:=aW B;refine wl rfl (bG (R:=bQ) (xs:=([]:List cz)) (ys:=b.k) I Kp (by decide) (by decide) rfl rfl 0 rfl 0 rfl 1 rfl A rfl fun o P a w O I=>?_);refine go I fun a w I=>?_;refine wl rfl (bf (ps:=[(0,.tmp 17)]) I sF uT (zl:=[aj 0,a8 cp,.slice none 0 0,a8 cp,aj 0]) (by kernel_rfl) rfl (us:=[(bq b o)]) ⟨rfl,trivial⟩ (ws:=(bq b o)) rfl rfl rfl rfl fun M a w O I=>?_);replace I:=I.zf (R:=bQ) 1 rfl 0 rfl;replace I:=(I.lit (R:=ar) (us:=(bq b o)) (xs:=[(aq.mk b.d (([]:List cz)++b.k) b.u b.j)]) 0 rfl (by decide) (aP (R:=ar) (x:=(aq.mk b.d (([]:List cz)++b.k) b.u b.j)) (⟨_,rfl,I.g0⟩)) rfl rfl).zf (R:=ar) 0 rfl 0 rfl;obtain⟨D,B⟩:=aW B;refine wl rfl (bG (R:=ar) (xs:=c) (ys:=[(aq.mk b.d (([]:List cz)++b.k) b.u b.j)]) I sF (by decide) (by decide) rfl rfl 1 rfl 7 rfl 0 rfl D rfl fun Y Q a w O I=>?_);exact fz
  exact fz
 rintro a w ⟨m,g,e,I,B⟩;unfold kD at B;refine am I fun a I=>?_;cases B
 refine aG I rfl (aw I rfl aI) ?_;exact⟨g,e,rfl,I.zo ⟨.inr (aO (i:=0) rfl),trivial⟩ 0 rfl 0 rfl⟩
def pI (b:(List aq)):Option ((List aq)×Int):=cond (decide ((4000:Int)<(b.length:Int))) (some (([],45))) ((gv b).bind fun c=>some ((c,0)))
def mg (b:Int) (c:(List aq)):Option (Fl ((List aq)×Int) ((List aq))):=some (.go (c,IntKind.i64.wrap (b+1)))
def j4 (c:(List aq)) (e:Int) (d:aq) (f:Int) (h:Bool):=cond h ((pU c 0 f).bind fun b=>(pU c f c.length).bind fun g=>gd (bP (([]:List aq).length+b.length)) <| gd (bP ((([]:List aq)++b).length+([d]).length)) <| gd (bP (((([]:List aq)++b)++([d])).length+g.length)) <| mg e (((([]:List aq)++b)++([d]))++g)) (mg e c)
def pJ (c:(List aq)) (e:Int) (d:aq) (b:Int):=cond (b==(c.length:Int)) (j4 c e d b true) ((bu c b).bind fun f=>(so f d).bind fun g=>j4 c e d b (g != 0))
def pK (c:(List aq)) (d:aq) (b:Int):Option (Fl (Int) (Int)):=cond (decide (b<(c.length:Int))) ((bu c b).bind fun e=>(so e d).bind fun f=>cond (decide (f<0)) (some (.go (IntKind.i64.wrap (b+1)))) (some (.out b))) (some (.out b))
def pL (e f c:(List aq)) (b:Int):=cond (decide (b<(((([]:List aq)++e)++f).length:Int))) ((bu ((([]:List aq)++e)++f) b).bind fun d=>(loop (fun s:Int=>pK c d s) 0).bind fun r=>pJ c b d r) (some (.out c))
def mh (b c:(List aq)):=gd (bP (([]:List aq).length+b.length)) <| gd (bP ((([]:List aq)++b).length+c.length)) <| (loop (fun s:(List aq)×Int=>pL b c s.1 s.2) (([]:List aq),0)).bind fun r=>pI r
def mi (c d:(List aq)) (b:Int):Option (Fl (Int) (Fl (Unit) ((List aq)×Int))):=cond (decide (b<(((([]:List aq)++c)++d).length:Int))) ((bu ((([]:List aq)++c)++d) b).bind fun e=>(dO e).bind fun f=>cond (!(f)) (some (.out (.out ([],5)))) (some (.go (IntKind.i64.wrap (b+1))))) (some (.out (.go ())))
def rv (b c:(List aq)):=gd (bP (([]:List aq).length+b.length)) <| gd (bP ((([]:List aq)++b).length+c.length)) <| (loop (fun s:Int=>mi b c s) 0).bind fun r=>Fl.el r (fun s=>mh b c) (fun y=>some (y))
theorem Dd (hLv:dh T L) (c d:(List aq)) (X Y:Value) (eg:aF ar T L X c) (ei:aF ar T L Y d) (y:(List aq)×Int) (B:rv c d=some y):bg aR No 74 [X,Y] L (fun v w'=>∃ (v3:Value) (uZ:bI),v = .tuple #[v3,aj y.2]/\gG ar T L w' [bv v3 uZ] 51 v3 uZ y.1):=by
 refine en Tryz.func74 Tryz.ntmps74 hT fun a I=>?_;replace I:=((I.fact bH (dh.dn hLv)).fS (aF.dn eg)).fS (aF.dn ei);unfold rv at B;refine am I fun a I=>?_;refine aM (J:=fun a w=>St L No T 79 [(0,X),(1,Y),(6,.slice none 0 0)] [] [aL ar X c,aL ar Y d,bH] a w/\mh c d=some y) ?_ ?_
 ·refine am I fun a I=>?_;replace I:=I.zn ar 51 (by decide);obtain⟨c2,B⟩:=aW B;refine wl rfl (bG (R:=ar) (xs:=([]:List aq)) (ys:=c) I sF (by decide) (by decide) rfl rfl 0 rfl 0 rfl 2 rfl c2 rfl fun gu eT a w O I=>?_);refine am I fun a I=>?_;obtain⟨c3,B⟩:=aW B;refine wl rfl (bG (R:=ar) (xs:=(([]:List aq)++c)) (ys:=d) I sF (by decide) (by decide) rfl rfl 0 rfl 0 rfl 2 rfl c3 rfl fun ab Z a w O I=>?_);refine am I fun a I=>?_;obtain⟨r1,a5,hMo1⟩:=bd B;refine bF _ (fun s a w=>∃ (u:Int),u=s/\St L No T 79 [(0,X),(1,Y),(6,.slice none 0 0),(15,ab),(16,aj (((([]:List aq)++c)++d).length:Int)),(17,aj u)] [bv ab Z] [aL ar X c,aL ar Y d,ap ar Z ((([]:List aq)++c)++d),bH] a w) a5 ⟨_,rfl,I.mt [0] [4,3,0,5]⟩ ?_;rintro s a w W ⟨u,rfl,I⟩ B hf1;have B:mi c d u=some W:=B;unfold mi at B;refine am I fun a I=>?_;refine aC ?_;rcases cd B with⟨c4,B⟩|⟨c4,B⟩
  ·refine am I fun a I=>?_;refine aC ?_;refine am I fun a I=>?_;obtain⟨a0,b0,B⟩:=bd B;refine wl rfl (dx (R:=ar) I ya uM rfl rfl 0 rfl 2 rfl b0 rfl fun el fr fM eX c5 c9 ca a I=>?_);obtain⟨e2,rfl,b7⟩:=c5;replace I:=I.fS b7;refine qy I (cg (k:=0) I uM 0 rfl c9 ca rfl id (us:=(bq a0 e2)) rfl rfl (fun h=>by cases h)) fun a I=>?_;refine ka I uT fun eq fl a w O I=>?_;refine go I fun a w I=>?_;obtain⟨gs,b6,B⟩:=bd B;refine kF I QM (pX _ _ I.dlt a0 _ I.g0 _ b6) fun w a I=>?_;rcases cd B with⟨cb,B⟩|⟨cb,B⟩
   ·refine am I fun a I=>?_;cases B
    have hr:=hf1 _ rfl;subst hr;replace hMo1:=iE hMo1;have B:=hMo1;cases B
    refine aG I Tryz.results74 (aw I rfl (aw I rfl aI)) ?_;exact⟨.slice none 0 0,[],rfl,og _ _ _ _ _ _⟩
   exact fz
  exact fz
 rintro a w ⟨I,B⟩;unfold mh at B;refine aM (J:=fun a w=>∃ (E:(List aq)) (S:Value) (F:LV),St L No T 79 [(6,S)] [bv S F] [ap ar F E,bH] a w/\pI E=some y) ?_ ?_
 ·refine am I fun a I=>?_;replace I:=I.zn ar 51 (by decide);obtain⟨ch,B⟩:=aW B;refine wl rfl (bG (R:=ar) (xs:=([]:List aq)) (ys:=c) I sF (by decide) (by decide) rfl rfl 0 rfl 0 rfl 1 rfl ch rfl fun gH f3 a w O I=>?_);refine am I fun a I=>?_;obtain⟨ck,B⟩:=aW B;refine wl rfl (bG (R:=ar) (xs:=(([]:List aq)++c)) (ys:=d) I sF (by decide) (by decide) rfl rfl 0 rfl 0 rfl 3 rfl ck rfl fun n g a w O I=>?_);refine am I fun a I=>?_;replace I:=I.zn ar 51 (by decide);obtain⟨r1,a5,hMo1⟩:=bd B;refine bF _ (fun s a w=>∃ (m:(List aq)) (f:Int) (p:Value) (o:LV),(m,f)=s/\St L No T 79 [(6,p),(28,n),(29,aj (((([]:List aq)++c)++d).length:Int)),(30,aj f)] [bv p o,bv n g] [ap ar o m,ap ar g ((([]:List aq)++c)++d),bH] a w) a5 ⟨_,_,_,_,rfl,I.mt [0,1] [0,1,6]⟩ ?_;rintro s a w W ⟨m,f,p,o,rfl,I⟩ B hf1;have B:pL c d m f=some W:=B;unfold pL at B;refine am I fun a I=>?_;refine aC ?_;rcases cd B with⟨cl,B⟩|⟨cl,B⟩
  ·refine am I fun a I=>?_;refine aM (J:=fun a w=>∃ (Q:(List aq)) (V:Value) (G:LV),St L No T 79 [(6,V),(28,n),(29,aj (((([]:List aq)++c)++d).length:Int)),(30,aj f)] [bv V G,bv n g] [ap ar G Q,ap ar g ((([]:List aq)++c)++d),bH] a w/\mg f Q=some W) ?_ ?_
   ·refine am I fun a I=>?_;obtain⟨b,ak,B⟩:=bd B;refine wl rfl (dx (R:=ar) I ya uM rfl rfl 1 rfl 1 rfl ak rfl fun er fs g1 f4 cs cv d0 a I=>?_);obtain⟨e,rfl,b8⟩:=cs;replace I:=I.fS b8;refine qy I (cg (k:=0) I uM 1 rfl cv d0 rfl id (us:=(bq b e)) rfl rfl (fun h=>by cases h)) fun a I=>?_;refine ka I uT fun q fn a w O I=>?_;refine go I fun a w I=>?_;refine aM (J:=fun a w=>∃ (t:Int),St L No T 79 [(6,p),(10,pt q 0),(11,aj t),(28,n),(29,aj (((([]:List aq)++c)++d).length:Int)),(30,aj f)] [bv p o,bv n g,.box q (bq b e) 51] [ap ar o m,ap ar g ((([]:List aq)++c)++d),aL bQ e b.k,bH] a w/\pJ m f b t=some W) ?_ ?_
    ·refine am I fun a I=>?_;obtain⟨r2,ed,hMo2⟩:=bd B;refine bF _ (fun s a w=>∃ (D:Int),D=s/\St L No T 79 [(6,p),(10,pt q 0),(11,aj D),(28,n),(29,aj (((([]:List aq)++c)++d).length:Int)),(30,aj f)] [bv p o,bv n g,.box q (bq b e) 51] [ap ar o m,ap ar g ((([]:List aq)++c)++d),aL bQ e b.k,bH] a w) ed ⟨_,rfl,I.mt [1,2,0] [1,2,0,3]⟩ ?_;rintro s a w f2 ⟨D,rfl,I⟩ B hf2;have B:pK m b D=some f2:=B;unfold pK at B;refine aC ?_;refine aC ?_;refine dr [] I fun w hQ I=>?_;refine gE [0,1,2,3,4] I fun a I=>?_;rcases cd B with⟨z,B⟩|⟨z,B⟩
     ·refine gE [5,6] I fun a I=>?_;obtain⟨K,av,B⟩:=bd B;obtain⟨bi,ds,g2,f5,d1,d2,d3,d4⟩:=kL (R:=ar) I ya uM 0 rfl 0 rfl av;obtain⟨af,rfl,b9⟩:=d1;replace I:=I.fS b9;refine dg 7 I z (v:=pt bi ds) (d4 rfl rfl) fun a I=>?_;refine dg 8 I z (l:=[]) (v:=.agg (bq K af).toArray) (cg (k:=0) I uM 0 rfl d2 d3 rfl bO (us:=(bq K af)) rfl rfl (fun h=>by cases h)) fun a I=>?_;refine gE [9] I fun a I=>?_;obtain⟨gi,b5,B⟩:=bd B;refine cR (i:=10) rfl (by kernel_rfl) I rfl rfl rfl z (bB I Nm rfl rfl (AJ _ _ I.dlt I.g4 K b _ _ I.g0 I.g3 _ b5) fun _ w C a O U=>⟨fq (O),?_⟩);obtain rfl:=C;have I:=eL U;refine gE [11,12] I fun a I=>?_;refine eD ?_;exact fz
     refine gE [5,6,7,8,9,10,11,12] I fun a I=>?_;refine eD ?_;exact fz
    rintro a w ⟨t,I,B⟩;unfold pJ at B;refine aM (J:=fun a w=>∃ (M:Bool),St L No T 79 [(6,p),(10,pt q 0),(11,aj t),(28,n),(29,aj (((([]:List aq)++c)++d).length:Int)),(30,aj f),(61,.bool M)] [bv p o,bv n g,.box q (bq b e) 51] [ap ar o m,ap ar g ((([]:List aq)++c)++d),aL bQ e b.k,bH] a w/\j4 m f b t M=some W) ?_ ?_
    ·refine dr [] I fun w hQ I=>?_;refine gE [0,1,2,3,4] I fun a I=>?_;rcases cd B with⟨A,B⟩|⟨A,B⟩
     ·refine gE [5,6,7,8,9,10,11,12] I fun a I=>?_;refine eD ?_;exact fin
     refine gE [5,6] I fun a I=>?_;obtain⟨H,ao,B⟩:=bd B;obtain⟨bl,e0,g7,f6,d5,d6,d7,d8⟩:=kL (R:=ar) I ya uM 0 rfl 0 rfl ao;obtain⟨ag,rfl,bb⟩:=d5;replace I:=I.fS bb;refine dg 7 I A (v:=pt bl e0) (d8 rfl rfl) fun a I=>?_;refine dg 8 I A (l:=[]) (v:=.agg (bq H ag).toArray) (cg (k:=0) I uM 0 rfl d6 d7 rfl bO (us:=(bq H ag)) rfl rfl (fun h=>by cases h)) fun a I=>?_;refine gE [9] I fun a I=>?_;obtain⟨gb,b4,B⟩:=bd B;refine cR (i:=10) rfl (by kernel_rfl) I rfl rfl rfl A (bB I Nm rfl rfl (AJ _ _ I.dlt I.g4 H b _ _ I.g0 I.g3 _ b4) fun _ w C a O U=>⟨fq (O),?_⟩);obtain rfl:=C;have I:=eL U;refine gE [11,12] I fun a I=>?_;refine eD ?_;exact fin
    rintro a w ⟨M,I,B⟩;unfold j4 at B;rcases cd B with⟨d9,B⟩|⟨d9,B⟩
    ·refine am I fun a I=>?_;replace I:=I.zn ar 51 (by decide);refine dr [(3,.blk (Value.ownBlock (.slice none 0 0))),(6,.any),(10,.any)] I fun w hQ I=>?_;refine gE [0,1] I fun a I=>?_;obtain⟨r,b1,B⟩:=bd B;obtain⟨e3,a1,dc⟩:=wc (R:=ar) I ya uM 1 rfl 1 rfl b1;refine dq 2 I (v:=e3) (dc (k1:=.i64) rfl (.inr ⟨rfl,rfl⟩) (.inl ⟨_,rfl,rfl⟩)) fun a I=>?_;refine dq 4 I (l:=[.blk (Value.ownBlock (.slice none 0 0))]) (v:=.agg (bq b e).toArray) (dm I rfl uM 3 rfl (gA I 3 rfl rfl 0 rfl rfl (by decide) bO) (us:=(bq b e)) rfl rfl (fun h=>by cases h)) fun a I=>?_;refine gE [7,8] I fun a I=>?_;obtain⟨a9,b2,B⟩:=bd B;obtain⟨e4,a2,dk⟩:=wc (R:=ar) I ya uM 1 rfl 1 rfl b2;refine dq 9 I (v:=e4) (dk (k2:=.i64) rfl (.inl ⟨_,rfl,rfl⟩) (.inr ⟨rfl,rfl⟩)) fun a I=>?_;obtain⟨a3,B⟩:=aW B;refine dQ (i:=3) (j:=5) rfl rfl (by kernel_rfl) rfl rfl ?_ ?_
     ·skip;replace I:=I.zf (R:=ar) 1 rfl 1 rfl;replace I:=I.fS (a1 _ _ I.g0);refine id (bG (R:=ar) (xs:=([]:List aq)) (ys:=r) I sF (by decide) (by decide) rfl rfl 0 rfl 2 rfl 0 rfl a3 rfl fun h0 f7 a w O I=>⟨jf rfl O kO,?_⟩);refine e1 5 (bf (ps:=[(0,.tmp 66)]) I sF uT (zl:=[aj 0,a8 cp,.slice none 0 0,a8 cp,aj 0]) (by kernel_rfl) rfl (us:=[(bq b e)]) ⟨rfl,trivial⟩ (ws:=(bq b e)) rfl rfl rfl rfl fun et a w O I=>⟨fq (O),?_⟩);replace I:=(I.lit (R:=ar) (us:=(bq b e)) (xs:=[b]) 0 rfl (by decide) (aP (R:=ar) (x:=b) (⟨_,rfl,I.g6⟩)) rfl rfl).zf (R:=ar) 0 rfl 0 rfl;obtain⟨N,B⟩:=aW B;refine e1 6 (bG (R:=ar) (xs:=(([]:List aq)++r)) (ys:=[b]) I sF (by decide) (by decide) rfl rfl 0 rfl 2 rfl 0 rfl N rfl fun e5 bs a w O I=>⟨jf rfl O qS,?_⟩);replace I:=I.fS (a2 _ _ I.g5);obtain⟨P,B⟩:=aW B;refine e1 10 (bG (R:=ar) (xs:=((([]:List aq)++r)++([b]))) (ys:=a9) I sF (by decide) (by decide) rfl rfl 0 rfl 1 rfl 0 rfl P rfl fun e6 bt a w O I=>⟨jf rfl O qS,?_⟩);refine gE [11] I fun a I=>?_;refine eD ?_;exact fin
     skip;refine id (bf (ps:=[(0,.tmp 66)]) I sF uT (zl:=[aj 0,a8 cp,.slice none 0 0,a8 cp,aj 0]) (by kernel_rfl) rfl (us:=[(bq b e)]) ⟨rfl,trivial⟩ (ws:=(bq b e)) rfl rfl rfl rfl fun ex a w O I=>⟨fq (O),?_⟩);replace I:=I.zf (R:=ar) 2 rfl 1 rfl;replace I:=I.fS (a1 _ _ I.g0);refine e1 3 (bG (R:=ar) (xs:=([]:List aq)) (ys:=r) I sF (by decide) (by decide) rfl rfl 1 rfl 2 rfl 0 rfl a3 rfl fun h1 f8 a w O I=>⟨jf rfl O kO,?_⟩);replace I:=(I.lit (R:=ar) (us:=(bq b e)) (xs:=[b]) 0 rfl (by decide) (aP (R:=ar) (x:=b) (⟨_,rfl,I.g6⟩)) rfl rfl).zf (R:=ar) 0 rfl 0 rfl;obtain⟨N,B⟩:=aW B;refine e1 6 (bG (R:=ar) (xs:=(([]:List aq)++r)) (ys:=[b]) I sF (by decide) (by decide) rfl rfl 0 rfl 2 rfl 0 rfl N rfl fun e5 bs a w O I=>⟨jf rfl O qS,?_⟩);replace I:=I.fS (a2 _ _ I.g5);obtain⟨P,B⟩:=aW B;refine e1 10 (bG (R:=ar) (xs:=((([]:List aq)++r)++([b]))) (ys:=a9) I sF (by decide) (by decide) rfl rfl 0 rfl 1 rfl 0 rfl P rfl fun e6 bt a w O I=>⟨jf rfl O qS,?_⟩);refine gE [11] I fun a I=>?_;refine eD ?_;exact fin
    exact fz
   rintro a w ⟨Q,V,G,I,B⟩;unfold mg at B;exact fz
  exact fz
 rintro a w ⟨E,S,F,I,B⟩;unfold pI at B;refine aC ?_;refine am I fun a I=>?_;rcases cd B with⟨dl,B⟩|⟨dl,B⟩
 ·refine am I fun a I=>?_;cases B
  refine aG I Tryz.results74 (aw I rfl (aw I rfl aI)) ?_;exact⟨.slice none 0 0,[],rfl,og _ _ _ _ _ _⟩
 refine am I fun a I=>?_;replace I:=I.zf (R:=ar) 0 rfl 0 rfl;obtain⟨g9,b3,B⟩:=bd B;refine kc I PJ (vX _ _ I.dlt E _ I.g0 _ b3) fun _ w C a O U=>?_;obtain⟨e8,c1,he,a4⟩:=C;obtain rfl:=he.symm;have I:=qs U a4;refine am I fun a I=>?_;cases B
 refine aG I Tryz.results74 (aw I rfl (aw I rfl aI)) ?_;exact⟨e8,c1,rfl,I.zo ⟨.inr (aO (i:=0) rfl),trivial⟩ 0 rfl 0 rfl⟩
def lw (d:(List aq)) (b:LN) (c:Int):=some ((d,(bj.mk b c)))
def lx (c:LU) (k:(List aq)) (j:Int) (g:LN) (h l:Int) (m:LI) (n:LR):Option (Fl ((List aq)×Int×LN×Int×Int×LI×LR) ((List aq)×LN×Int)):=cond (decide ((0:Int)<j)) ((lL (bj.mk g h) c 3).bind fun d=>(fp uu c (ah.mk l m n) d.1).bind fun b=>(nJ (ah.mk b.1.r b.1.i b.1.s)).bind fun o=>(rv k o).bind fun p=>(iR (bj.mk d.2.L d.2.r1) 2).bind fun e=>(eP (ah.mk b.1.r b.1.i b.1.s) e.1).bind fun f=>some (.go (p.1,IntKind.i64.wrap (j-1),e.2.L,e.2.r1,f.1.r,f.1.i,f.1.s))) (some (.out (k,g,h)))
def jF (e:bj) (d:LU) (c:ah):=(cj e 3).bind fun b=>(loop (fun s:(List aq)×Int×LN×Int×Int×LI×LR=>lx d s.1 s.2.1 s.2.2.1 s.2.2.2.1 s.2.2.2.2.1 s.2.2.2.2.2.1 s.2.2.2.2.2.2) (([]:List aq),IntKind.i64.wrap (1+b.1),b.2.L,b.2.r1,c.r,c.i,c.s)).bind fun r=>lw r.1 r.2.1 r.2.2
theorem uo (j:bj) (d:LU) (Y:ah) (f v3:Value) (v4 v5:Value) (b:Nat) (ca:L.heap[b]? = some (.cells (bo j f).toArray 84 (0,0))) (c4:¬ T b) (ch:aF (a6.int .i64) (dT T [.box b (bo j f) 84]) L f j.L) (ck:aF an (dT T [.box b (bo j f) 84]) L v3 d) (cl:aF ac (dT T [.box b (bo j f) 84]) L v4 Y.i) (cs:aF aa (dT T [.box b (bo j f) 84]) L v5 Y.s) (hLv:dh (dT T [.box b (bo j f) 84]) L) (y:(List aq)×bj) (B:jF j d Y=some y):bg aR (fun k=>k=b) 20 [pt b 0,v3,.agg (aU Y v4 v5).toArray] L (fun v w'=>∃ (v6:Value) (Bb:bI) (v8:Value),v=v6/\gG ar T L w' [bv v6 Bb,.box b (bo y.2 v8) 84] 51 v6 Bb y.1/\w'.heap[b]? = some (.cells (bo y.2 v8).toArray 84 (0,0))/\aF (a6.int .i64) (dT T [bv v6 Bb,.box b (bo y.2 v8) 84]) w' v8 y.2.L/\f=v8):=by
 refine tO (c:=_) Tryz.func20 rfl T 41 Tryz.ntmps20 hT rfl ca c4 fun a I=>?_;replace I:=((((I.fact bH hLv).fS ch).fS ck).fS cl).fS cs;unfold jF at B;refine kB I fun x d8 a w O I=>?_;refine am I fun a I=>?_;refine aM (J:=fun a w=>∃ (S:(List aq)) (P:LN) (Q:Int) (E:Value) (z:LV),St L (fun k=>k=b) T 41 [(7,E)] [bv E z,.box b [f,aj Q] 84] [ap ar z S,aL (a6.int .i64) f P,bH] a w/\lw S P Q=some y) ?_ ?_
 ·refine am I fun a I=>?_;obtain⟨c9,bt,B⟩:=bd B;refine wl rfl (cN I oh rfl rfl 1 rfl (bL _ _ (I.drop 1).dlt j 3 _ _ (I.zb 1 rfl) (I.zi 1 rfl) (aF.lent (i:=1) rfl I.g3) _ bt) fun _ w C O=>?_);obtain⟨dk,he,hrow,a4,F⟩:=C;obtain rfl:=he.symm;subst F;refine⟨(bo c9.2 f),hrow,fun a I=>?_⟩;replace I:=I.fS (aF.back (i:=1) rfl a4);refine am I fun a I=>?_;replace I:=I.zn ar 51 (by decide);obtain⟨r1,cb,hMo1⟩:=bd B;refine bF _ (fun s a w=>∃ (o:(List aq)) (A:Int) (m:LN) (n g:Int) (p:LI) (q:LR) (V:Value) (K:LV) (t u:Value),(o,A,m,n,g,p,q)=s/\St L (fun k=>k=b) T 41 [(0,pt b 0),(1,v3),(5,pt x 0),(7,V),(8,aj A)] [bv V K,.box b [f,aj n] 84,.box x [aj g,t,u] 25] [aL an v3 d,ap ar K o,aL (a6.int .i64) f m,aL ac t p,aL aa u q,bH] a w) cb ⟨_,_,_,_,_,_,_,_,_,_,_,rfl,I.mt [0,2,1] [4,0,1,3,2,6]⟩ ?_;rintro s a w f1 ⟨o,A,m,n,g,p,q,V,K,t,u,rfl,I⟩ B hf1;have B:lx d o A m n g p q=some f1:=B;unfold lx at B;refine aC ?_;refine am I fun a I=>?_;rcases cd B with⟨c3,B⟩|⟨c3,B⟩
  ·refine am I fun a I=>?_;refine aC ?_;refine am I fun a I=>?_;refine aC ?_;refine dr [(4,.blk (some b)),(10,.blk (some x))] I fun w hQ I=>?_;refine gE [0] I fun a I=>?_;refine dq 1 I (l:=[.blk (some b)]) (v:=.agg #[aj g,t,u]) (dm I rfl f9 2 rfl (gA I 2 rfl rfl 1 rfl rfl (by decide) bO) (us:=[aj g,t,u]) rfl rfl (fun h=>by cases h)) fun a I=>?_;refine gE [2,3] I fun a I=>?_;obtain⟨D,b8,B⟩:=bd B;refine e1 4 (iQ I Kf rfl rfl 1 rfl (pb _ _ (I.drop 1).dlt (bj.mk m n) d 3 _ _ _ (I.zb 1 rfl) (I.zi 1 rfl) (aF.lent (i:=1) rfl I.g2) (aF.lent (i:=1) rfl I.g0) (bH.keep I.g5 (al _ _) (fun k O=>.inl ((mZ (i:=1) rfl k).1 O))) _ b8) fun _ w C O=>?_);obtain⟨W,M,dl,he,⟨a2,a0,a5⟩,hrow,a9,G⟩:=C;obtain rfl:=he.symm;subst G;refine⟨(bo D.2 f),[aA W M],hrow,gc ⟨a2,by decide⟩ a0,wX _,fun a I=>⟨jf rfl O gB,?_⟩⟩;replace I:=((I.fR (a5.keep (al _ _) (c8 (i:=1) rfl [aA W M] _))).fS (a9.sub (c8 (i:=1) rfl [aA W M] _))).zf (R:=ad) 0 rfl 1 rfl;obtain⟨e,b9,B⟩:=bd B;refine ec 5 I Mk (n8 _ _ I.dlt I.g8 uu Rw d (ah.mk g p q) D.1 _ _ _ _ I.g3 I.g6 I.g7 I.g0 _ b9) fun _ w C a O U=>?_;obtain⟨b5,b6,d1,dn,d2,he,ab,af,ag,Z⟩:=C;obtain rfl:=he.symm;have I:=Ar U af ag Z;replace I:=I.fS (ab.sub (eY _));refine gE [6,7,8,9] I fun a I=>?_;refine es 10 I fun w I=>?_;refine eD ?_;refine am I fun a I=>?_;replace I:=I.zf (R:=aa) 0 rfl 2 rfl;obtain⟨c5,bb,B⟩:=bd B;refine kc I RL (A3 _ _ I.dlt (ah.mk e.1.r e.1.i e.1.s) _ _ I.g1 I.g0 _ bb) fun _ w C a O U=>?_;obtain⟨ds,d3,he,ak⟩:=C;obtain rfl:=he.symm;have I:=qs U ak;replace I:=(I.zf (R:=ar) 2 rfl 9 rfl).zf (R:=ar) 0 rfl 1 rfl;obtain⟨d9,bi,B⟩:=bd B;refine kc I RJ (Dd _ _ I.dlt I.g15 o c5 _ _ I.g1 I.g0 _ bi) fun _ w C a O U=>?_;obtain⟨e0,d4,he,ao⟩:=C;obtain rfl:=he.symm;have I:=qs U ao;refine am I fun a I=>?_;refine dr [(2,.blk (some b)),(7,.blk (some x))] I fun w hQ I=>?_;refine dq 0 I (l:=[.blk (some b)]) (v:=.agg (aU e.1 b5 b6).toArray) (dm I rfl f9 3 rfl (gA I 3 rfl rfl 2 rfl rfl (by decide) bO) (us:=(aU e.1 b5 b6)) rfl rfl (fun h=>by cases h)) fun a I=>?_;refine gE [1] I fun a I=>?_;obtain⟨b4,bl,B⟩:=bd B;refine e1 2 (iQ I Mi rfl rfl 2 rfl (pa _ _ (I.drop 2).dlt (bj.mk D.2.L D.2.r1) 2 _ _ (I.zb 2 rfl) (I.zi 2 rfl) (aF.lent (i:=2) rfl I.g9) (bH.keep I.g16 (al _ _) (fun k O=>.inl ((mZ (i:=2) rfl k).1 O))) _ bl) fun _ w C O=>?_);obtain⟨X,N,e2,he,⟨a3,a1,av⟩,hrow,b0,H⟩:=C;obtain rfl:=he.symm;subst H;refine⟨(bo b4.2 f),[gn X N],hrow,gc ⟨a3,by decide⟩ a1,wX _,fun a I=>⟨jf rfl O gB,?_⟩⟩;replace I:=((I.fR (av.keep (al _ _) (c8 (i:=2) rfl [gn X N] _))).fS (b0.sub (c8 (i:=2) rfl [gn X N] _))).zf (R:=br) 0 rfl 1 rfl;obtain⟨dc,bs,B⟩:=bd B;refine ec 3 I Kd (nE _ _ I.dlt I.g19 (ah.mk e.1.r e.1.i e.1.s) b4.1 _ _ _ I.g8 I.g7 I.g0 _ bs) fun _ w C a O U=>?_;obtain⟨e3,d5,e4,d6,he,b2,b3,Z⟩:=C;obtain rfl:=he.symm;have I:=Ar U b2 b3 Z;refine gE [4,5,6] I fun a I=>?_;refine es 7 I fun w I=>?_;refine eD ?_;refine am I fun a I=>?_;replace I:=(I.zf (R:=ac) 0 rfl 1 rfl).zf (R:=aa) 0 rfl 1 rfl;exact fin
  refine am I fun a I=>?_;cases B
  have hr:=hf1 _ rfl;subst hr;have B:lw o m n=some y:=hMo1;exact fin
 rintro a w ⟨S,P,Q,E,z,I,B⟩;unfold lw at B;refine am I fun a I=>?_;cases B
 refine aG I rfl (aw I rfl aI) ?_;exact⟨E,z,f,rfl,I.zm ⟨.inr (aO (i:=0) rfl),⟨.inr (aO (i:=1) rfl),trivial⟩⟩ 0 rfl 0 rfl 1 rfl (by decide),I.zb 1 rfl,(aF.up ⟨.inr (aO (i:=0) rfl),⟨.inr (aO (i:=1) rfl),trivial⟩⟩ I.g1),rfl⟩
def ke (b:LU) (f:ah) (g:ae):Option Int:=(oH b).bind fun c=>cond (!(c)) (some (41)) ((iZ f).bind fun d=>cond (!(d)) (some (42)) ((l7 b g).bind fun e=>cond (!(e)) (some (40)) (some (0))))
theorem xy (hLv:dh T L) (b:LU) (c:ah) (d:ae) (n o p:Value) (k:aF an T L n b) (l:aF ac T L o c.i) (m:aF aa T L p c.s) (y:Int) (B:ke b c d=some y):bg aR No 112 [n,.agg (aU c o p).toArray,.agg (aX d).toArray] L (fun v w'=>v=aj y):=by
 refine en Tryz.func112 Tryz.ntmps112 hT fun a I=>?_;replace I:=(((I.fact bH (dh.dn hLv)).fS (aF.dn k)).fS (aF.dn l)).fS (aF.dn m);unfold ke at B;refine kB I fun q t a w O I=>?_;refine kb I fun r u a w O I=>?_;refine am I fun a I=>?_;refine aC ?_;refine am I fun a I=>?_;obtain⟨x,e,B⟩:=bd B;refine kF I Nu (xq _ _ I.dlt b _ I.g2 _ e) fun w a I=>?_;rcases cd B with⟨h,B⟩|⟨h,B⟩
 ·exact fz
 refine am I fun a I=>?_;obtain⟨z,f,B⟩:=bd B;refine kF I Ke (nF _ _ I.dlt I.g3 c _ _ I.g1 I.g0 _ f) fun w a I=>?_;rcases cd B with⟨j,B⟩|⟨j,B⟩
 ·exact fz
 refine am I fun a I=>?_;obtain⟨A,g,B⟩:=bd B;refine kE I J8 (tU _ _ I.dlt I.g3 b d _ I.g2 _ g) fun w a I=>?_;exact fz
def i6 (b:LU) (d:ah) (e:ae):=(ke b d e).bind fun c=>cond (c != 0) (some ((cp,c))) ((si b d).bind fun f=>(vv f e).bind fun g=>some ((g.1,0)))
theorem xw (hLv:dh T L) (b:LU) (c:ah) (d:ae) (H J K:Value) (E:aF an T L H b) (F:aF ac T L J c.i) (G:aF aa T L K c.s) (y:ByteArray×Int) (B:i6 b c d=some y):bg aR No 33 [H,.agg (aU c J K).toArray,.agg (aX d).toArray] L (fun v w'=>v = .tuple #[a8 y.1,aj y.2]):=by
 refine en Tryz.func33 Tryz.ntmps33 hT fun a I=>?_;replace I:=(((I.fact bH (dh.dn hLv)).fS (aF.dn E)).fS (aF.dn F)).fS (aF.dn G);unfold i6 at B;refine kB I fun M a2 a w O I=>?_;refine kb I fun N a3 a w O I=>?_;refine am I fun a I=>?_;refine aC ?_;refine am I fun a I=>?_;obtain⟨a4,r,B⟩:=bd B;refine kF I Nj (xy _ _ I.dlt I.g3 b c d _ _ _ I.g2 I.g1 I.g0 _ r) fun w a I=>?_;rcases cd B with⟨x,B⟩|⟨x,B⟩
 ·refine am I fun a I=>?_;cases B
  refine aG I Tryz.results33 (aw I rfl (aw I rfl aI)) ?_;exact rfl
 refine am I fun a I=>?_;refine aC ?_;refine dr [(2,.bks []),(4,.any)] I fun w hQ I=>?_;refine gE [0,1] I fun a I=>?_;refine dq 3 I (l:=[.bks []]) (v:=.agg (aX d).toArray) (dm I rfl dB 0 rfl (xN I 0 rfl rfl [] rfl rfl bO) (us:=(aX d)) rfl rfl (fun h=>by cases h)) fun a I=>?_;obtain⟨D,t,B⟩:=bd B;replace I:=I.re [] [0,1];refine e1 2 (ci I Fp rfl rfl (rc _ _ I.zt b c _ _ _ I.dok I.d2 I.d1 I.d0 _ t) fun _ w C a O U=>⟨jf rfl O we,?_⟩);obtain⟨P,a9,ab,af,Q,Y,S,R,Z,V,he,k,m,n,e,f,z⟩:=C;obtain rfl:=he.symm;have I:=U _ z;replace I:=((((I.fS (k.sub (ay _))).fS (m.sub (ay _))).fS (n.sub (ay _))).fM (e.keep (al _ _) (ay _))).fM (f.keep (al _ _) (ay _));obtain⟨a5,u,B⟩:=bd B;replace I:=I.re [0,1,2] [3,4];refine e1 4 (ci I Dp rfl rfl (Rx _ _ I.zt D d _ _ _ _ _ _ _ _ _ _ I.dok I.d4 I.d3 I.d2 I.d1 I.d0 I.d8 _ u) fun _ w C a O U=>⟨jf rfl O qS,?_⟩);obtain⟨ag,ak,ao,a0,W,a1,X,he,A,o,p,q,g,j⟩:=C;obtain rfl:=he.symm;have I:=U _ A;replace I:=((((I.fS (o.sub (ay _))).fS (p.sub (ay _))).fS (q.sub (ay _))).fM (g.keep (al _ _) (ay _))).fM (j.keep (al _ _) (ay _));refine gE [5,6] I fun a I=>?_;refine eD ?_;refine am I fun a I=>?_;cases B
 refine aG I Tryz.results33 (aw I rfl (aw I rfl aI)) ?_;exact rfl
def eZ (u:ae) (j:LY) (d:LK) (k:LU) (m:Int) (n:LI) (o:LR) (p:LB) (q:LL) (t:Bool) (v:ByteArray) (f:Int) (g:ByteArray):Option (Fl (LY×LK×LU×Int×LI×LR×LB×LL) (LK×az)):=cond t (some (.out (d,(az.mk k (ah.mk m n o) p (dS aK u d q))))) (gd (bP (d.length+([(ae.mk f g)]).length)) <| (vv (az.mk k (ah.mk m n o) p q) (ae.mk f g)).bind fun c=>gd (bP (j.length+([c.1]).length)) <| some (.go ((j++([c.1])),(d++([(ae.mk f g)])),c.2.l,c.2.b.r,c.2.b.i,c.2.b.s,c.2.e,c.2.h)))
def ir (e:ae) (c:LY) (f:LK) (d:LU) (g:Int) (h:LI) (i:LR) (j:LB) (k:LL):=(ej d e c).bind fun b=>eZ e c f d g h i j k b.c1 b.u b.x1.v b.x1.x
def kp (c:az) (d:ae):=(some ((cF aK d c.h).getD ([]))).bind fun f=>cond ((cF aK d c.h).isSome) (some ((f,c))) ((cu d).bind fun g=>cond g (some ((f,c))) ((loop (fun s:LY×LK×LU×Int×LI×LR×LB×LL=>ir d s.1 s.2.1 s.2.2.1 s.2.2.2.1 s.2.2.2.2.1 s.2.2.2.2.2.1 s.2.2.2.2.2.2.1 s.2.2.2.2.2.2.2) (([]:List ByteArray),([]:List ae),c.l,c.b.r,c.b.i,c.b.s,c.e,c.h)).bind fun y=>some (y)))
theorem wt (g:az) (t:ae) (o:Nat) (W X Y:Value) (f:Nat) (p:Array MapEntry) (u d:Nat) (q:Array MapEntry) (k:Nat) (hD:xH T L [xS o W g.b.r X Y f d,om f p u,om d q k]) (e4:aF an (dT T [xS o W g.b.r X Y f d,om f p u,om d q k]) L W g.l) (e5:aF ac (dT T [xS o W g.b.r X Y f d,om f p u,om d q k]) L X g.b.i) (e6:aF aa (dT T [xS o W g.b.r X Y f d,om f p u,om d q k]) L Y g.b.s) (e0:bE ad true a6.str false (dT T [xS o W g.b.r X Y f d,om f p u,om d q k]) L p g.e) (e2:bE ad true (a6.slice ad) false (dT T [xS o W g.b.r X Y f d,om f p u,om d q k]) L q g.h) (hLv:dh (dT T [xS o W g.b.r X Y f d,om f p u,om d q k]) L) (y:LK×az) (B:kp g t=some y):bg aR (MD [xS o W g.b.r X Y f d,om f p u,om d q k]) 115 [pt o 0,.agg (aX t).toArray] L (fun v w'=>∃ (c9 a5:Value) (a9 ab:Value) (E:Array MapEntry) (H:Nat) (F:Array MapEntry) (K:Nat),v=c9/\aF ad (dT T [xS o a5 y.2.b.r a9 ab f d,om f E H,om d F K]) w' c9 y.1/\mx L w' [xS o W g.b.r X Y f d,om f p u,om d q k] [xS o a5 y.2.b.r a9 ab f d,om f E H,om d F K]/\aF an (dT T [xS o a5 y.2.b.r a9 ab f d,om f E H,om d F K]) w' a5 y.2.l/\aF ac (dT T [xS o a5 y.2.b.r a9 ab f d,om f E H,om d F K]) w' a9 y.2.b.i/\aF aa (dT T [xS o a5 y.2.b.r a9 ab f d,om f E H,om d F K]) w' ab y.2.b.s/\bE ad true a6.str false (dT T [xS o a5 y.2.b.r a9 ab f d,om f E H,om d F K]) w' E y.2.e/\bE ad true (a6.slice ad) false (dT T [xS o a5 y.2.b.r a9 ab f d,om f E H,om d F K]) w' F y.2.h):=by
 refine fT (c:=_) Tryz.func115 rfl T 53 Tryz.ntmps115 hT rfl hD fun a I=>?_;replace I:=(((((I.fact bH hLv).fS e4).fS e5).fS e6).fM e0).fM e2;unfold kp at B;refine kB I fun ao ex a w O I=>?_;refine am I fun a I=>?_;refine aC ?_;refine aC ?_;refine dr [] I fun w hQ I=>?_;refine gE [0,1,2,3,4] I fun a I=>?_;obtain⟨eX,c3,B⟩:=bd B;obtain⟨ed,cl,cs⟩:=jr I NS c6 3 rfl 0 rfl (c:=(aX t)) (key:=t) rfl R9 (zc:=[.slice none 0 0]) rfl (⟨_,rfl,aF.nil_ _ _ _⟩) c3;obtain⟨b6,rfl,c5⟩:=cl;replace I:=I.fS c5;refine dq 5 I (l:=[]) (v:=.tuple #[b6,.bool ((cF aK t g.h).isSome)]) (cs rfl rfl bO) fun a I=>?_;refine gE [6,7,8,9,10] I fun a I=>?_;refine eD ?_;refine am I fun a I=>?_;refine io ?_;refine am I fun a I=>?_;rcases cd B with⟨b9,B⟩|⟨b9,B⟩
 ·refine am I fun a I=>?_;cases B
  refine aG I rfl (aw I rfl aI) ?_;have hZ:=I.sl [1,2,3] [0,5,4,3,2,1];exact⟨b6,W,X,Y,p,u,q,k,rfl,hZ.g0,hZ.zd,hZ.g1,hZ.g2,hZ.g3,hZ.g4,hZ.g5⟩
 refine am I fun a I=>?_;obtain⟨f2,c4,B⟩:=bd B;refine wg I rfl rfl rfl b9 (bB I yx rfl rfl (da _ _ I.dlt t _ c4) fun _ w C a O U=>?_);obtain rfl:=C;have I:=eL U;refine am I fun a I=>?_;rcases cd B with⟨d0,B⟩|⟨d0,B⟩
 ·refine am I fun a I=>?_;cases B
  refine aG I rfl (aw I rfl aI) ?_;have hZ:=I.sl [1,2,3] [0,5,4,3,2,1];exact⟨b6,W,X,Y,p,u,q,k,rfl,hZ.g0,hZ.zd,hZ.g1,hZ.g2,hZ.g3,hZ.g4,hZ.g5⟩
 refine am I fun a I=>?_;replace I:=(I.zn a6.str 9 (by decide)).zn ad 30 (by decide);obtain⟨r1,e3,hMo1⟩:=bd B;refine bF _ (fun s a w=>∃ (z:LY) (G:LK) (A:LU) (M:Int) (P:LI) (Q:LR) (S:LB) (V:LL) (a1:Value) (af:LV) (D:Value) (ag:LV) (Z:AM) (av:Nat) (ak:AM) (b2:Nat) (a2 a3 a4:Value),(z,G,A,M,P,Q,S,V)=s/\St L (MD [xS o W g.b.r X Y f d,om f p u,om d q k]) T 53 [(0,pt o 0),(3,pt ao 0),(7,a1),(8,D)] [.own a1 9 a6.str.size af,aA D ag,om f Z av,om d ak b2,xS o a2 M a3 a4 f d,.box ao (aX t) 30] [ap a6.str af z,ap ad ag G,aL an a2 A,aL ac a3 P,aL aa a4 Q,pg Z S,sW ak V,bH] a w) e3 ⟨_,_,_,_,_,_,_,_,_,_,_,_,_,_,_,_,_,_,_,rfl,I.mt [1,0,4,5,3,2] [1,0,7,6,5,4,3,8]⟩ ?_;rintro s a w f1 ⟨z,G,A,M,P,Q,S,V,a1,af,D,ag,Z,av,ak,b2,a2,a3,a4,rfl,I⟩ B hf1;have B:ir t z G A M P Q S V=some f1:=B;unfold ir at B;refine am I fun a I=>?_;refine aM (J:=fun a w=>∃ (b3:Bool) (b4:ByteArray) (m:Int) (n:ByteArray) (b0:Nat),St L (MD [xS o W g.b.r X Y f d,om f p u,om d q k]) T 53 [(0,pt o 0),(3,pt ao 0),(7,a1),(8,D),(9,pt b0 0)] [.own a1 9 a6.str.size af,aA D ag,om f Z av,om d ak b2,xS o a2 M a3 a4 f d,.box ao (aX t) 30,.box b0 [.bool b3,a8 b4,aj m,a8 n] 225] [ap a6.str af z,ap ad ag G,aL an a2 A,aL ac a3 P,aL aa a4 Q,pg Z S,sW ak V,bH] a w/\eZ t z G A M P Q S V b3 b4 m n=some f1) ?_ ?_
 ·obtain⟨N136,c1⟩:∃ N,N=w.heap.size:=⟨_,rfl⟩;replace I:=I.fact (IS N136) (pP c1);refine dr [(8,.new N136)] I fun w hQ I=>?_;refine gE [0,1,2,3,4,5] I fun a I=>?_;have hL:=I;replace hL:=hL.zf (R:=a6.str) 0 rfl 1 rfl;obtain⟨eT,b7,B⟩:=bd B;refine dQ (i:=6) (j:=7) rfl rfl (by kernel_rfl) rfl rfl ?_ ?_
  ·skip;have hL:=I;replace hL:=hL.zf (R:=a6.str) 0 rfl 1 rfl;refine id (bB I wa rfl rfl (eE _ _ hL.dlt hL.g9 A t z _ _ hL.g4 hL.g0 _ b7) fun _ w C a O U=>⟨fq (O),?_⟩);obtain rfl:=C;have I:=eL U;have d1:=(I.g0:N136<=w.heap.size);refine e1 7 (df I nP rfl fun ca d2 a w O I=>⟨fq (O),?_⟩);refine dw 8 (.blk (some ca)) _ (by kernel_rfl) (pT (cC d1 d2)) ?_;refine es 8 I fun w I=>?_;refine eD ?_;exact fin
  skip;have d3:=(I.g0:N136<=w.heap.size);refine id (df I nP rfl fun cb d4 a w O I=>⟨fq (O),?_⟩);refine dw 8 (.blk (some cb)) _ (by kernel_rfl) (pT (cC d3 d4)) ?_;have hL:=I;replace hL:=hL.zf (R:=a6.str) 1 rfl 1 rfl;refine ec 6 I wa (eE _ _ hL.dlt hL.g9 A t z _ _ hL.g4 hL.g0 _ b7) fun _ w C a O U=>?_;obtain rfl:=C;have I:=eL U;refine es 8 I fun w I=>?_;refine eD ?_;exact fin
 rintro a w ⟨b3,b4,m,n,b0,I,B⟩;unfold eZ at B;refine aC ?_;refine am I fun a I=>?_;rcases cd B with⟨dc,B⟩|⟨dc,B⟩
 ·refine am I fun a I=>?_;refine aC ?_;refine dr [(6,.blk (some d))] I fun w hQ I=>?_;refine gE [0,1,2,3,4,5] I fun a I=>?_;replace I:=I.zf (R:=ad) 1 rfl 1 rfl;refine e1 6 (sN I NS c6 2 rfl 7 rfl (c:=(aX t)) (cv:=[D]) (key:=t) (val:=G) rfl (⟨_,rfl,I.g0⟩) rfl rfl rfl fun ck ch w O I=>⟨jf rfl O gB,?_⟩);refine eD ?_;refine am I fun a I=>?_;cases B
  have hr:=hf1 _ rfl;subst hr;have B:=hMo1;cases B
  refine aG I rfl (aw I rfl aI) ?_;have hZ:=I.sl [3,1,2] [1,4,5,6,7,0];exact⟨D,a2,a3,a4,Z,av,ck,ch,rfl,hZ.g0,hZ.zd,hZ.g1,hZ.g2,hZ.g3,hZ.g4,hZ.g5⟩
 refine am I fun a I=>?_;refine dr [(4,.blk (Value.ownBlock D)),(9,.bks [some o,some f,some d]),(11,.blk (Value.ownBlock a1))] I fun w hQ I=>?_;refine gE [0,1,2,5,6,7] I fun a I=>?_;refine dq 8 I (l:=[.blk (Value.ownBlock D)]) (v:=.agg #[aj m,a8 n]) (dm I rfl dB 6 rfl (gA I 6 rfl rfl 1 rfl rfl (by decide) bO) (us:=[aj m,a8 n]) rfl rfl (fun h=>by cases h)) fun a I=>?_;refine e1 3 (bf (ps:=[(0,.tmp 43)]) I iA fH (zl:=[aj 0,a8 cp]) (by kernel_rfl) rfl (us:=[[aj m,a8 n]]) ⟨rfl,trivial⟩ (ws:=[aj m,a8 n]) rfl rfl rfl rfl fun e8 a w O I=>⟨fq (O),?_⟩);replace I:=(I.lit (R:=ad) (us:=[aj m,a8 n]) (xs:=[(ae.mk m n)]) 0 rfl (by decide) (aP (R:=ad) (x:=(ae.mk m n)) rfl) rfl rfl).zf (R:=ad) 0 rfl 0 rfl;obtain⟨dk,B⟩:=aW B;refine e1 4 (bG (R:=ad) (xs:=G) (ys:=[(ae.mk m n)]) I iA (by decide) (by decide) rfl rfl 1 rfl 3 rfl 0 rfl dk rfl fun f3 eg a w O I=>⟨jf rfl O kO,?_⟩);obtain⟨a0,c2,B⟩:=bd B;replace I:=I.re [4,2,3] [0,1,5,6];refine e1 9 (ci I Dp rfl rfl (Rx _ _ I.zt (az.mk A (ah.mk M P Q) S V) (ae.mk m n) _ _ _ _ _ _ _ _ _ _ I.dok I.d5 I.d6 I.d7 I.d8 I.d9 I.d10 _ c2) fun _ w C a O U=>⟨jf rfl O (Dt rfl rfl),?_⟩);obtain⟨f4,f5,f6,er,ei,et,el,he,dl,bl,bs,bt,bb,bi⟩:=C;obtain rfl:=he.symm;have I:=U _ dl;replace I:=((((I.fS (bl.sub (ay _))).fS (bs.sub (ay _))).fS (bt.sub (ay _))).fM (bb.keep (al _ _) (ay _))).fM (bi.keep (al _ _) (ay _));refine e1 10 (bf (ps:=[(0,.tmp 50)]) I zK O2 (zl:=[a8 cp]) (by kernel_rfl) rfl (us:=[[a8 a0.1]]) ⟨rfl,trivial⟩ (ws:=[a8 a0.1]) rfl rfl rfl rfl fun ea a w O I=>⟨fq (O),?_⟩);replace I:=(I.lit (R:=a6.str) (us:=[a8 a0.1]) (xs:=[a0.1]) 0 rfl (by decide) (aP (R:=a6.str) (x:=a0.1) rfl) rfl rfl).zf (R:=a6.str) 0 rfl 0 rfl;obtain⟨dn,B⟩:=aW B;refine e1 11 (bG (R:=a6.str) (xs:=z) (ys:=[a0.1]) I zK (by decide) (by decide) rfl rfl 3 rfl 10 rfl 0 rfl dn rfl fun f7 eq a w O I=>⟨jf rfl O kO,?_⟩);refine gE [12,13] I fun a I=>?_;refine eD ?_;exact fin
def l6 (b:LU) (d:ah) (e:ae):=(ke b d e).bind fun c=>cond (c != 0) (some (([],c))) ((si b d).bind fun f=>(kp f e).bind fun g=>some ((g.1,0)))
theorem C8 (hLv:dh T L) (b:LU) (c:ah) (d:ae) (K M N:Value) (G:aF an T L K b) (H:aF ac T L M c.i) (J:aF aa T L N c.s) (y:LK×Int) (B:l6 b c d=some y):bg aR No 34 [K,.agg (aU c M N).toArray,.agg (aX d).toArray] L (fun v w'=>∃ (P:Value),v = .tuple #[P,aj y.2]/\aF ad (dT T []) w' P y.1):=by
 refine en Tryz.func34 Tryz.ntmps34 hT fun a I=>?_;replace I:=(((I.fact bH (dh.dn hLv)).fS (aF.dn G)).fS (aF.dn H)).fS (aF.dn J);unfold l6 at B;refine kB I fun Q a5 a w O I=>?_;refine kb I fun R a9 a w O I=>?_;refine am I fun a I=>?_;refine aC ?_;refine am I fun a I=>?_;obtain⟨ab,t,B⟩:=bd B;refine kF I Nj (xy _ _ I.dlt I.g3 b c d _ _ _ I.g2 I.g1 I.g0 _ t) fun w a I=>?_;rcases cd B with⟨z,B⟩|⟨z,B⟩
 ·refine am I fun a I=>?_;cases B
  refine aG I Tryz.results34 (aw I rfl (aw I rfl aI)) ?_;exact⟨.slice none 0 0,rfl,aF.nil_ _ _ _⟩
 refine am I fun a I=>?_;refine aC ?_;refine dr [(2,.bks []),(4,.any)] I fun w hQ I=>?_;refine gE [0,1] I fun a I=>?_;refine dq 3 I (l:=[.bks []]) (v:=.agg (aX d).toArray) (dm I rfl dB 0 rfl (xN I 0 rfl rfl [] rfl rfl bO) (us:=(aX d)) rfl rfl (fun h=>by cases h)) fun a I=>?_;obtain⟨E,u,B⟩:=bd B;replace I:=I.re [] [0,1];refine e1 2 (ci I Fp rfl rfl (rc _ _ I.zt b c _ _ _ I.dok I.d2 I.d1 I.d0 _ u) fun _ w C a O U=>⟨jf rfl O we,?_⟩);obtain⟨S,ag,ak,ao,V,a1,X,W,a2,Y,he,k,m,n,e,f,A⟩:=C;obtain rfl:=he.symm;have I:=U _ A;replace I:=((((I.fS (k.sub (ay _))).fS (m.sub (ay _))).fS (n.sub (ay _))).fM (e.keep (al _ _) (ay _))).fM (f.keep (al _ _) (ay _));obtain⟨af,x,B⟩:=bd B;replace I:=I.re [0,1,2] [3,4];refine e1 4 (ci I PC rfl rfl (wt _ _ I.zt E d _ _ _ _ _ _ _ _ _ _ I.dok I.d4 I.d3 I.d2 I.d1 I.d0 I.d8 _ x) fun _ w C a O U=>⟨jf rfl O qS,?_⟩);obtain⟨F,av,b0,b1,a3,Z,a4,a0,he,o,D,p,q,r,g,j⟩:=C;obtain rfl:=he.symm;have I:=U _ D;replace I:=(((((I.fS (o.sub (ay _))).fS (p.sub (ay _))).fS (q.sub (ay _))).fS (r.sub (ay _))).fM (g.keep (al _ _) (ay _))).fM (j.keep (al _ _) (ay _));refine gE [5,6] I fun a I=>?_;refine eD ?_;refine am I fun a I=>?_;cases B
 refine aG I Tryz.results34 (aw I rfl (aw I rfl aI)) ?_;exact⟨F,rfl,(aF.up trivial I.g5)⟩
def sC (b:LK):=some (b)
def oZ (b:Int):Option (Fl (Int) (Fl (Unit) LK)):=some (.go (IntKind.i64.wrap (b+1)))
def lE (b:LK) (c:Int):Option (Fl (Int) (Fl (Unit) LK)):=(pU b c b.length).bind fun e=>(pU (List.take (Int.toNat c) b++List.replicate ((Int.toNat (b.length:Int))-(Int.toNat c)) (ae.mk (0:Int) cp)++List.drop (Int.toNat (b.length:Int)) b) 0 c).bind fun d=>some (.out (.out d))
def lF (d:LK) (b c:Int):Option (Fl (LK×Int×Int) (LK×Int)):=some (.go (d,b,IntKind.i64.wrap (c+1)))
def o0 (f:LK) (c:Int) (d:LK) (e b:Int):=cond (decide (b<(((Int.toNat (f.length:Int))-(Int.toNat c):Nat):Int))) (gd (decide (0<=b)) <| gd (decide (b<(((Int.toNat (f.length:Int))-(Int.toNat c):Nat):Int))) <| (bu d ((((Int.toNat c):Nat):Int)+b)).bind fun g=>gd (decide (0<=IntKind.i64.wrap (b-1))) <| gd (decide (IntKind.i64.wrap (b-1)<(((Int.toNat (f.length:Int))-(Int.toNat c):Nat):Int))) <| (bu d ((((Int.toNat c):Nat):Int)+(IntKind.i64.wrap (b-1)))).bind fun h=>cond (!(g.v==h.v&&g.x.toList==h.x.toList)) (gd (decide (0<=b)) <| gd (decide (b<(((Int.toNat (f.length:Int))-(Int.toNat c):Nat):Int))) <| (bu d ((((Int.toNat c):Nat):Int)+b)).bind fun i=>(bu d e).bind fun j=>lF (d.set (Int.toNat e) i) (IntKind.i64.wrap (e+1)) b) (lF d e b)) (some (.out (d,e)))
def o4 (c:LK) (b:Int):=cond (decide (b<(c.length:Int))) ((bu c b).bind fun d=>(bu c (IntKind.i64.wrap (b-1))).bind fun e=>cond (d.v==e.v&&d.x.toList==e.x.toList) ((pU c b c.length).bind fun f=>(loop (fun s:LK×Int×Int=>o0 c b s.1 s.2.1 s.2.2) (c,b,1)).bind fun r=>lE r.1 r.2) (oZ b)) (some (.out (.go ())))
def oB (b:LK):=cond (decide ((b.length:Int)<2)) (some (b)) ((loop (fun s:Int=>o4 b s) 1).bind fun r=>Fl.el r (fun s=>sC b) (fun y=>some (y)))
theorem CV (d:LK) (b:Value) (xJ:bI) (hD:xH T L [aA b xJ]) (dn:bk ad (dT T [aA b xJ]) L xJ d) (y:LK) (B:oB d=some y):bg aR (MD [aA b xJ]) 165 [b] L (fun v w'=>∃ (v3:Value) (uZ:bI),v=v3/\bk ad (dT T [aA v3 uZ]) w' uZ y/\mx L w' [aA b xJ] [aA v3 uZ]):=by
 refine fT (c:=_) Tryz.func165 rfl T 61 Tryz.ntmps165 hT rfl hD fun a I=>?_;replace I:=I.fR dn;unfold oB at B;refine am I fun a I=>?_;refine aC ?_;refine am I fun a I=>?_;rcases cd B with⟨a5,B⟩|⟨a5,B⟩
 ·refine am I fun a I=>?_;cases B
  refine aG I rfl (aw I rfl aI) ?_;have hZ:=I.sl [0] [0];exact⟨b,xJ,rfl,hZ.g0,hZ.zd⟩
 refine am I fun a I=>?_;refine aM (J:=fun a w=>St L (MD [aA b xJ]) T 61 [(0,b)] [aA b xJ] [ap ad xJ d] a w/\sC d=some y) ?_ ?_
 ·refine am I fun a I=>?_;obtain⟨r1,dk,hMo1⟩:=bd B;refine bF _ (fun s a w=>∃ (e:Int),e=s/\St L (MD [aA b xJ]) T 61 [(0,b),(3,aj e)] [aA b xJ] [ap ad xJ d] a w) dk ⟨_,rfl,I.mt [0] [0]⟩ ?_;rintro s a w K ⟨e,rfl,I⟩ B hf1;have B:o4 d e=some K:=B;unfold o4 at B;refine aC ?_;refine am I fun a I=>?_;rcases cd B with⟨a9,B⟩|⟨a9,B⟩
  ·refine am I fun a I=>?_;refine aM (J:=fun a w=>St L (MD [aA b xJ]) T 61 [(0,b),(3,aj e)] [aA b xJ] [ap ad xJ d] a w/\oZ e=some K) ?_ ?_
   ·refine am I fun a I=>?_;refine aC ?_;refine dr [] I fun w hQ I=>?_;refine gE [0,1] I fun a I=>?_;obtain⟨o,Q,B⟩:=bd B;obtain⟨Y,d3,et,e0,ab,af,ag,ak⟩:=kL (R:=ad) I j7 dB 0 rfl 0 rfl Q;obtain rfl:=ab;refine dq 2 I (v:=pt Y d3) (ak rfl rfl) fun a I=>?_;refine dq 3 I (l:=[]) (v:=.agg (aX o).toArray) (cg (k:=0) I dB 0 rfl af ag rfl bO (us:=(aX o)) rfl rfl (fun h=>by cases h)) fun a I=>?_;refine gE [4,5,6] I fun a I=>?_;obtain⟨p,S,B⟩:=bd B;obtain⟨Z,d4,ex,e2,ao,av,b0,b1⟩:=kL (R:=ad) I j7 dB 0 rfl 0 rfl S;obtain rfl:=ao;refine dq 7 I (v:=pt Z d4) (b1 rfl rfl) fun a I=>?_;refine dq 8 I (l:=[]) (v:=.agg (aX p).toArray) (cg (k:=0) I dB 0 rfl av b0 rfl bO (us:=(aX p)) rfl rfl (fun h=>by cases h)) fun a I=>?_;refine dq 9 I (v:=.bool (o.v==p.v&&o.x.toList==p.x.toList)) (CZ I rfl rfl) fun a I=>?_;refine eD ?_;refine am I fun a I=>?_;rcases cd B with⟨b2,B⟩|⟨b2,B⟩
    ·refine am I fun a I=>?_;obtain⟨eq,X,B⟩:=bd B;obtain⟨g,ed,b3,b4⟩:=NN (R:=ad) I j7 dB 0 rfl 0 rfl X;replace I:=I.fact (L8 2 b g (Int.toNat e) (Int.toNat (d.length:Int)) d.length) b3;refine wl rfl (ky (v:=g) I (b4 (k2:=.i64) rfl (.inl ⟨_,rfl,rfl⟩) (.inr ⟨rfl,rfl⟩)) rfl rfl fun a I=>?_);refine am I fun a I=>?_;refine aM (J:=fun a w=>∃ (f:LK) (q:Int) (t:LV),St L (MD [aA b xJ]) T 61 [(0,b),(3,aj q)] [aA b t] [ap ad t f] a w/\lE f q=some K) ?_ ?_
     ·refine am I fun a I=>?_;obtain⟨r2,dl,hMo2⟩:=bd B;refine bF _ (fun s a w=>∃ (j:LK) (i r:Int) (u:LV),(j,i,r)=s/\St L (MD [aA b xJ]) T 61 [(0,b),(3,aj i),(4,g),(5,aj r)] [aA b u] [ap ad u j,L8 2 b g (Int.toNat e) (Int.toNat (d.length:Int)) d.length] a w) dl ⟨_,_,_,_,rfl,I.mt [0] [1,0]⟩ ?_;rintro s a w f2 ⟨j,i,r,u,rfl,I⟩ B hf2;have B:o0 d e j i r=some f2:=B;unfold o0 at B;refine aC ?_;refine am I fun a I=>?_;refine qy I (OW I j7 rfl I.g1) fun a I=>?_;refine am I fun a I=>?_;rcases cd B with⟨b5,B⟩|⟨b5,B⟩
      ·refine am I fun a I=>?_;refine aM (J:=fun a w=>∃ (F:LK) (D E:Int) (z:LV),St L (MD [aA b xJ]) T 61 [(0,b),(3,aj D),(4,g),(5,aj E)] [aA b z] [ap ad z F,L8 2 b g (Int.toNat e) (Int.toNat (d.length:Int)) d.length] a w/\lF F D E=some f2) ?_ ?_
       ·refine am I fun a I=>?_;refine aC ?_;refine dr [] I fun w hQ I=>?_;refine gE [0,1] I fun a I=>?_;obtain⟨b6,B⟩:=aW B;obtain⟨b7,B⟩:=aW B;obtain⟨m,M,B⟩:=bd B;obtain⟨a0,d5,eT,e3,b8,b9,bb,bi⟩:=Bx (R:=ad) I j7 dB 0 rfl 0 rfl I.g1 b6 b7 M;obtain rfl:=b8;refine dq 2 I (v:=pt a0 d5) (bi rfl rfl) fun a I=>?_;refine dq 3 I (l:=[]) (v:=.agg (aX m).toArray) (cg (k:=0) I dB 0 rfl b9 bb rfl bO (us:=(aX m)) rfl rfl (fun h=>by cases h)) fun a I=>?_;refine gE [4,5,6] I fun a I=>?_;obtain⟨bl,B⟩:=aW B;obtain⟨bs,B⟩:=aW B;obtain⟨n,N,B⟩:=bd B;obtain⟨a1,d6,eX,e4,bt,c1,c2,c3⟩:=Bx (R:=ad) I j7 dB 0 rfl 0 rfl I.g1 bl bs N;obtain rfl:=bt;refine dq 7 I (v:=pt a1 d6) (c3 rfl rfl) fun a I=>?_;refine dq 8 I (l:=[]) (v:=.agg (aX n).toArray) (cg (k:=0) I dB 0 rfl c1 c2 rfl bO (us:=(aX n)) rfl rfl (fun h=>by cases h)) fun a I=>?_;refine dq 9 I (v:=.bool (!(m.v==n.v&&m.x.toList==n.x.toList))) (BD I rfl rfl) fun a I=>?_;refine eD ?_;refine am I fun a I=>?_;rcases cd B with⟨c4,B⟩|⟨c4,B⟩
        ·refine am I fun a I=>?_;obtain⟨c5,B⟩:=aW B;obtain⟨c9,B⟩:=aW B;obtain⟨A,P,B⟩:=bd B;obtain⟨a2,d7,f3,e5,ca,cb,ch,ck⟩:=Bx (R:=ad) I j7 dB 0 rfl 0 rfl I.g1 c5 c9 P;obtain rfl:=ca;refine wl rfl (ky (v:=pt a2 d7) I (ck rfl rfl) rfl rfl fun a I=>?_);refine qy I (cg (k:=0) I dB 0 rfl cb ch rfl id (us:=(aX A)) rfl rfl (fun h=>by cases h)) fun a I=>?_;obtain⟨a4,G,B⟩:=bd B;refine wl rfl (dx (R:=ad) I j7 dB rfl rfl 0 rfl 0 rfl G rfl fun ds er f4 e6 cl cv d0 a I=>?_);obtain rfl:=cl;refine wl rfl (sO (R:=ad) (k:=0) (cs:=(aX a4)) (us:=(aX A)) (x':=A) I rfl rfl rfl dB 0 rfl 0 rfl cv d0 G rfl rfl rfl rfl fun e8 w O I=>?_);exact fz
        exact fz
       rintro a w ⟨F,D,E,z,I,B⟩;unfold lF at B;exact fz
      refine am I fun a I=>?_;cases B
      have hr:=hf2 _ rfl;subst hr;have B:lE j i=some K:=hMo2;exact fin
     rintro a w ⟨f,q,t,I,B⟩;unfold lE at B;refine am I fun a I=>?_;obtain⟨ei,V,B⟩:=bd B;obtain⟨H,eg,d1,d2⟩:=NN (R:=ad) I j7 dB 0 rfl 0 rfl V;replace I:=I.fact (L8 2 b H (Int.toNat q) (Int.toNat (f.length:Int)) f.length) d1;refine wl rfl (ky (v:=H) I (d2 (k2:=.i64) rfl (.inl ⟨_,rfl,rfl⟩) (.inr ⟨rfl,rfl⟩)) rfl rfl fun a I=>?_);refine wl rfl (MA (R:=ad) (z0:=(ae.mk (0:Int) cp)) (xs:=f) I iA fH rfl 0 rfl 1 rfl I.g0 rfl fun ea w O I=>?_);refine am I fun a I=>?_;obtain⟨el,W,B⟩:=bd B;refine wl rfl (Ox (R:=ad) (k1:=.i64) I j7 dB rfl (.inr ⟨rfl,rfl⟩) (.inl ⟨_,rfl,rfl⟩) 0 rfl 0 rfl W rfl fun d8 a3 a I=>?_);refine am I fun a I=>?_;cases B
     have hr:=hf1 _ rfl;subst hr;replace hMo1:=iE hMo1;have B:=hMo1;cases B
     refine aG I rfl (aw I rfl aI) ?_;have hZ:=I.sl [0] [0];exact⟨d8,a3,rfl,hZ.g0,hZ.zd⟩
    exact fz
   rintro a w ⟨I,B⟩;unfold oZ at B;exact fz
  exact fz
 rintro a w ⟨I,B⟩;unfold sC at B;refine am I fun a I=>?_;cases B
 refine aG I rfl (aw I rfl aI) ?_;have hZ:=I.sl [0] [0];exact⟨b,xJ,rfl,hZ.g0,hZ.zd⟩
def sR (d:LK):=(oA d).bind fun b=>gd (bP b.length) <| (oB (tD b)).bind fun c=>some (c)
theorem EH (hLv:dh T L) (d:LK) (q:Value) (p:aF ad T L q d) (y:LK) (B:sR d=some y):bg aR No 108 [q] L (fun v w'=>∃ (o:Value) (rN:bI),v=o/\gG ad T L w' [aA o rN] 30 o rN y):=by
 refine en Tryz.func108 Tryz.ntmps108 hT fun a I=>?_;replace I:=(I.fact bH (dh.dn hLv)).fS (aF.dn p);unfold sR at B;refine am I fun a I=>?_;obtain⟨m,e,B⟩:=bd B;refine kc I Nt (Aw _ _ I.dlt d _ I.g0 _ e) fun _ w C a O U=>?_;obtain⟨u,r,he,b⟩:=C;obtain rfl:=he.symm;have I:=qs U b;refine am I fun a I=>?_;obtain⟨h,B⟩:=aW B;replace I:=I.re [0] [];refine wl rfl (ci I PZ rfl rfl (JA _ _ _ _ _ I.dok I.d0 h) fun _ w C a O U=>?_);obtain⟨he,s,j,k⟩:=C;subst he;have I:=U _ k;replace I:=I.fR (j.keep (al _ _) (ay _));refine am I fun a I=>?_;obtain⟨t,f,B⟩:=bd B;replace I:=I.re [0] [];refine wl rfl (ci I P1 rfl rfl (CV _ _ I.zt (tD m) _ _ I.dok I.d0 _ f) fun _ w C a O U=>?_);obtain⟨n,g,he,c,l⟩:=C;obtain rfl:=he.symm;have I:=U _ l;replace I:=I.fR (c.keep (al _ _) (ay _));refine am I fun a I=>?_;cases B
 refine aG I rfl (aw I rfl aI) ?_;exact⟨n,g,rfl,I.zo ⟨.inr (aO (i:=0) rfl),trivial⟩ 0 rfl 0 rfl⟩
end
end
section
open Go.RowKit
open Go.Lib hiding intOf
abbrev w7 (v:BitVec 64):Int:=(v.toNat:Int)
theorem IF {n:Nat} (h:n<18446744073709551616):IntKind.u64.wrap (n:Int)=(n:Int):=by
 simp [IntKind.wrap,IntKind.bits,IntKind.signed]; omega
theorem OR (n:Nat):IntKind.u64.wrap (n:Int)=((n % 18446744073709551616:Nat):Int):=by
 simp [IntKind.wrap,IntKind.bits,IntKind.signed]
theorem LJ (a b:BitVec 64):wh .xor .u64 (w7 a) (w7 b)=w7 (a ^^^ b):=by
 unfold wh;show IntKind.u64.wrap ((BitVec.ofInt 64 (a.toNat:Int) ^^^ BitVec.ofInt 64 (b.toNat:Int)).toNat:Int)=_;rw [BitVec.ofInt_natCast,BitVec.ofInt_natCast,BitVec.ofNat_toNat,BitVec.ofNat_toNat,BitVec.setWidth_eq,BitVec.setWidth_eq,IF (a ^^^ b).isLt]
theorem Ln (a:BitVec 64) (n:Nat) (hn:n<=64):Ag .u64 (w7 a) (n:Int)=w7 (a <<< n):=by
 unfold Ag;have e:(w7 a)*2 ^ (min ((n:Int)).toNat (IntKind.u64.bits))=((a.toNat*2 ^ n:Nat):Int):=by
  rw [oQ,show min n (IntKind.u64.bits)=n from Cx hn]
  push_cast
  rfl
 rw [e,OR];show _=(((a <<< n).toNat:Nat):Int);rw [BitVec.toNat_shiftLeft,Nat.shiftLeft_eq]
theorem NZ (a:BitVec 64):rI .u64 (w7 a) 63=if a.msb=true then 1 else 0:=by
 unfold rI;have e:(2:Int) ^ (min ((63:Int)).toNat (IntKind.u64.bits))=9223372036854775808:=by decide
 rw [e,Int.fdiv_eq_ediv_of_nonneg _ (by omega)];have h:=a.isLt;rw [BitVec.msb_eq_decide];show (a.toNat:Int) / 9223372036854775808=if decide (2 ^ 63<=a.toNat)=true then 1 else 0;by_cases h2:2 ^ 63<=a.toNat
 ·rw [decide_eq_true h2,if_pos rfl]; omega
 ·rw [decide_eq_false h2,if_neg (by simp)]; omega
theorem Ce (n:Nat) (c:BitVec 64):cy (n+1) c=eW (cy n c):=tM n 1 c
theorem Cd:∀ (l:List UInt8) (c:BitVec 64) (b:UInt8),fN c (l++[b])=cy 8 (fN c l ^^^ (fQ b <<< 56))
 | [],_,_=>rfl
 | x::l,c,b=>Cd l _ b
theorem Of (b:UInt8):IntKind.u64.wrap (b.toNat:Int)=w7 (fQ b):=by
 have h:=b.toNat_lt;rw [IF (by omega)];show _=(((BitVec.ofNat 64 b.toNat).toNat:Nat):Int);rw [BitVec.toNat_ofNat,Cy (by omega)]
abbrev c0:BitVec 64:=BitVec.ofNat 64 18446744073709551615
def yk (s:ByteArray):aT:=⟨(s.size:Int),w7 (fN c0 s.toList)⟩
theorem Ch (s:ByteArray):s.toList.length=s.size:=by rw [ByteArray.toList_eq,Array.length_toList]; rfl
theorem Sx (c:BitVec 64):IntKind.u64.wrap ((rI .u64 (w7 c) 63)*4823603603198064275)=w7 (if c.msb=true then xK else 0#64):=by
 rw [NZ];cases c.msb <;> rfl
theorem Kz (c:BitVec 64):loop (fun s:Int×Int=>mH s.1 s.2) (w7 c,0)=some (w7 (cy 8 c)):=by
 refine tx (B:=fun s:Int×Int=>mH s.1 s.2) (fun k=>(w7 (cy k c),(k:Int))) 8 rfl (fun k O=>?_) ?_
 ·dsimp only;unfold mH;rw [decide_eq_true (by omega),cond_true,Sx,show Ag .u64 (w7 (cy k c)) 1=w7 (cy k c <<< 1) from Ln _ 1 (by omega),LJ,cH (by omega),Ce];rfl
 ·rfl
theorem Hl {s:ByteArray} (h:s.size<=140000000000000):p9 s=some (yk s):=by
 have hl:=Ch s;unfold p9;rw [show loop (fun t:Int×Int=>mI s t.1 t.2) (18446744073709551615,0)=some (w7 (fN c0 s.toList)) from
  em (xs:=s.toList) (fun n=>(w7 (fN c0 (s.toList.take n)),(n:Int))) rfl (fun n b hx=>by
   have hn:=aY hx;dsimp only;unfold mI;rw [decide_eq_true (show (n:Int)<(s.size:Int) by omega),cond_true,bx,hx,ax,Of,show Ag .u64 (w7 (fQ b)) 56=w7 (fQ b <<< 56) from Ln _ 56 (by omega),LJ,Kz,ax];unfold rP;rw [cH (by omega),bV hx,Cd]) (by
   dsimp only;unfold mI;rw [hl,decide_eq_false (by omega),cond_false,<- hl,gz]),ax]
 rfl
theorem Oe:∀ (x:Fin 256) (j:Fin 8),IntKind.u64.wrap (wh .and .u8 (rI .u8 ((x.val:Nat):Int) (IntKind.u64.wrap (7-((j.val:Nat):Int)))) 1)=if x.val.testBit (7-j.val)=true then 1 else 0:=by decide +kernel
theorem Iw (b:UInt8) {j:Nat} (hj:j<8):((fQ b <<< 56) <<< j).msb=b.toNat.testBit (7-j):=by
 rw [<- IG,LT,AO,BitVec.getLsbD_ofNat];rw [decide_eq_true (show 64-1<64 by omega),decide_eq_false (show ¬ 64-1<56+j by omega),decide_eq_true (show 64-1-(56+j)<64 by omega),show 64-1-(56+j)=7-j by omega];simp
def ys (c w:BitVec 64) (j:Nat):BitVec 64:=cy j (c ^^^ w) ^^^ (w <<< j)
theorem M3 (c w:BitVec 64):ys c w 0=c:=by
 unfold ys;show (c ^^^ w) ^^^ (w <<< 0)=c;rw [BitVec.shiftLeft_zero,AP,IH,D5]
theorem M2 (c w:BitVec 64) (j:Nat):ys c w (j+1)=ui (ys c w j) (w <<< j).msb:=by
 have e:cy j (c ^^^ w)=ys c w j ^^^ (w <<< j):=by
  unfold ys;rw [AP,IH,D5]
 conv=>lhs; unfold ys
 rw [Ce,e,Ep,AP,IH,D5]
theorem OX (c:BitVec 64) (b:UInt8):ys c (fQ b <<< 56) 8=cy 8 (c ^^^ (fQ b <<< 56)):=by
 unfold ys;rw [<- IG];have:(fQ b) <<< (56+8)=0#64:=BitVec.shiftLeft_eq_zero (by omega);rw [this,D5]
theorem Pp (r:BitVec 64) (t:Bool):(bif (rI .u64 (w7 r) 63:Int) != (if t=true then 1 else 0) then wh .xor .u64 (Ag .u64 (w7 r) 1) 4823603603198064275 else Ag .u64 (w7 r) 1)=w7 (ui r t):=by
 rw [NZ,show Ag .u64 (w7 r) 1=w7 (r <<< 1) from Ln r 1 (by omega),show (4823603603198064275:Int)=w7 xK from rfl,LJ];unfold ui;cases r.msb <;> cases t <;> simp
theorem Gf {s:ByteArray} {n:Nat} {b:UInt8} (hb:s.toList[n]? = some b) (c:BitVec 64):loop (fun t:Int×Int=>lV s (n:Int) t.1 t.2) (w7 c,7)=some (w7 (cy 8 (c ^^^ (fQ b <<< 56)))):=by
 rw [<- OX];refine tx (B:=fun t:Int×Int=>lV s (n:Int) t.1 t.2) (fun k=>(w7 (ys c (fQ b <<< 56) k),7-(k:Int))) 8 (by rw [M3]; rfl) (fun k O=>?_) ?_
 ·dsimp only;unfold lV;have h256:=b.toNat_lt;have hbit:=Oe ⟨b.toNat,by omega⟩ ⟨k,O⟩;dsimp only at hbit;rw [decide_eq_true (show (0:Int)<=7-(k:Int) by omega),cond_true,bx,hb,ax,hbit];have hw:(decide (0<=IntKind.u64.wrap (7-(k:Int))))=true:=by
   rw [show (7-(k:Int))=((7-k:Nat):Int) by omega,IF (by omega)];exact decide_eq_true (by omega)
  rw [hw];have e:=Pp (ys c (fQ b <<< 56) k) (b.toNat.testBit (7-k));rw [<- Iw b O,<- M2,Iw b O] at e;have hw2:IntKind.i64.wrap (7-(k:Int)-1)=7-((k+1:Nat):Int):=by rw [qq (by omega) (by omega)]; omega
  show cond _ _ _=_;unfold q8;rw [hw2,<- e];cases ((rI .u64 (w7 (ys c (fQ b <<< 56) k)) 63:Int) != (if b.toNat.testBit (7-k)=true then 1 else 0)) <;> rfl
 ·dsimp only;unfold lV;rfl
theorem DO {s:ByteArray} (h:s.size<=140000000000000):uz s=some (yk s):=by
 have hl:=Ch s;unfold uz;rw [show loop (fun t:Int×Int=>oK s t.1 t.2) (18446744073709551615,0)=some (w7 (fN c0 s.toList)) from
  em (xs:=s.toList) (fun n=>(w7 (fN c0 (s.toList.take n)),(n:Int))) rfl (fun n b hx=>by
   have hn:=aY hx;dsimp only;unfold oK;rw [decide_eq_true (show (n:Int)<(s.size:Int) by omega),cond_true,Gf hx,ax];unfold tz;rw [cH (by omega),bV hx,Cd]) (by
   dsimp only;unfold oK;rw [hl,decide_eq_false (by omega),cond_false,<- hl,gz]),ax]
 rfl
theorem Ie {s t:ByteArray} (hs:s.size<=8) (h:yk s=yk t):s=t:=by
 have h1:(s.size:Int)=(t.size:Int):=congrArg aT.k1 h;have h2:((fN c0 s.toList).toNat:Int)=((fN c0 t.toList).toNat:Int):=congrArg aT.v1 h;have h3:fN c0 s.toList=fN c0 t.toList:=BitVec.eq_of_toNat_eq (by omega);have h4:=Fw (a:=s.toList) (b:=t.toList) (by rw [Ch,Ch]; omega) (by rw [Ch]; exact hs) h3;rw [ByteArray.toList_eq,ByteArray.toList_eq] at h4;exact GJ (D3.1 h4)
end
section
open Go.RowKit
open Go.Lib hiding intOf
structure eU (l:List aN) (x:aq):Prop where
 cost:1<=x.j/\x.j<=30000
 right:∃ (inp:ae->ByteArray) (n:Nat) (r:aN),(∀ k,(inp k).size<=8)/\l[n]? = some r/\x.d=rk l n/\x.u=Vd l inp n/\x.k=(fJ l inp (Vd l inp) r r.c.length).map fun k=>⟨k,yk (vK l inp k)⟩
theorem EF {n:Nat} (h:n<65536):(cL (n:Int)).size<=8:=by
 have h1:(cL n).size=(itoa n).length:=by simp [cL,ByteArray.size]
 have:=yE n 5 (by omega);rw [h1,nx]; omega
section
variable {l:List aN} {inp:ae->ByteArray}
theorem Pg (C:aV l) {n:Nat} (hn:n<l.length):(Vd l inp n).size<=8:=by
 have h:=bA hn;have ha:=(C.each n _ h).asks;obtain⟨m,e,hm⟩:=u7 C h (ls:=dH l inp (Vd l inp) l[n] l[n].c.length) (by rw [ub (bX _)]; omega);rw [zL C h,e];exact EF hm
theorem Rh (C:aV l) (hi:∀ k,(inp k).size<=8) {k:ae} (O:fP l k):(vK l inp k).size<=8:=by
 have hl:=C.high;rcases O with⟨c,_,rfl⟩|⟨n,hn,rfl⟩
 ·rw [jx]; exact hi _
 ·rw [tb (by omega)]; exact Pg C hn
theorem EP (C:aV l) {n:Nat} {r:aN} (h:l[n]? = some r) {V:Nat->ByteArray} {j:Nat} {k:ae} (O:k∈fJ l inp V r j):fP l k:=by
 rcases ux C h O with⟨c,h1,h2⟩|⟨i,h1,h2,h3⟩
 ·exact .inl ⟨c,h1,h2⟩
 ·exact .inr ⟨i,h2,h3⟩
end
section
variable {l:List aN} {b:ah} {H:Int->ae->ByteArray} {P:ae->Prop}
theorem dF.in8 (hB:dF l b) (k:ae):(inB b k).size<=8:=by
 show (nr b k).u.size<=8;unfold nr;cases hf:b.i.find? (fun x=>dt x.d k) with
 | none=>exact bT _
 | some x=>exact (hB.ins x (IM hf)).value
noncomputable def xa (b:ah) (k:ae):Bool:=decide (k.v=30)||cE b k
noncomputable def MC (b:ah) (k:ae):ByteArray:=if k.v=30 then inB b k else (bc b.s k).1.u
theorem vg {c:Nat}:xa b (bJ c)=true:=by
 unfold xa;rw [show (bJ c).v=30 from rfl]; rfl
theorem FR {n:Nat}:xa b (rk l n)=cE b (rk l n):=by
 unfold xa;rw [decide_eq_false wD,GH]
theorem KJ (hl:l.length<=8) (hB:dF l b) {k:ae} (O:fP l k):rx b k=some (MC b k,xa b k):=by
 unfold rx MC;rcases O with⟨c,_,rfl⟩|⟨n,hn,rfl⟩
 ·rw [ki,ax,cond_true,Dv (hB.rm hl).2.1,ax,vg,if_pos (show (bJ c).v=30 from rfl)]
 ·rw [k5,ax,cond_false,hB.find hl,ax,FR,if_neg wD];unfold mj cE;cases h:(bc b.s (rk l n)).2 with
  | false=>rfl
  | true =>
   rw [cond_true,tF];congr 2
theorem KI (hl:l.length<=8) (hB:dF l b) (k:ae):(MC b k).size<=1000:=by
 unfold MC;split
 ·have:=hB.in8 k; omega
 ·cases h:(bc b.s k).2 with
  | true=>exact (hB.found h).1.value
  | false=>rw [(rQ h).1]; exact bT _
def CP (l:List aN) (b:ah):Prop:=∀ m∈b.s,m.t=b.r->m.u=vK l (inB b) m.d
theorem VI.verR (C:aV l) (hB:dF l b) (h:VI l H b P):CP l b:=fun m hm hv=>by
 rw [h.ver C hB hm hv];congr 1;exact (funext h.now).symm
theorem CP.kn (h:CP l b) {k:ae} (O:fP l k) (hn:xa b k=true):MC b k=vK l (inB b) k:=by
 unfold MC;rcases O with⟨c,_,rfl⟩|⟨n,_,rfl⟩
 ·rw [if_pos (show (bJ c).v=30 from rfl),jx]
 ·rw [FR] at hn;unfold cE at hn;rw [kg,decide_eq_true_eq] at hn;obtain⟨h1,h2⟩:=bW hn.1;rw [if_neg wD,h _ h1 hn.2,h2]
theorem CU (C:aV l) (hB:dF l b) (hV:CP l b) {m:au} (hm:m∈b.s) {β:Type} {g:Bool×(List cz)->Option β} {R:β->Prop}
  (k:∀ r:Bool×(List cz),(r.1=true->m.t=b.r/\r.2=m.k.map fun k=>⟨k,yk (vK l (inB b) k)⟩)->Ok (g r) R) :
  Ok ((loop (fun s:Bool×Int×(List cz)=>j2 b m s.1 s.2.1 s.2.2) ((m.t:Int)==b.r,0,([]:List cz))).bind g) R:=by
 have hl:=C.high;have hm':=hB.recs m hm;have hrl:=hm'.reads;refine bz (fun (j:Nat) (s:Bool×Int×(List cz))=>s.2.1=j/\s.2.2.length=j/\(s.1=true->m.t=b.r/\s.2.2=(m.k.take j).map fun k=>⟨k,yk (vK l (inB b) k)⟩)) (fun r=>r.1=true->m.t=b.r/\r.2=m.k.map fun k=>⟨k,yk (vK l (inB b) k)⟩) m.k.length ⟨rfl,rfl,fun h=>⟨by simpa using h,rfl⟩⟩ ?_ k;rintro j ⟨a,i,xs⟩ hj ⟨rfl,h2,h3⟩;dsimp only at h2 h3 ⊢;unfold j2;refine aE (fun hlt=>?_) (fun hlt=>ai ?_)
 ·have hlt:j<m.k.length:=by have:=of_decide_eq_true hlt; omega
  have hg:=hm'.good _ (dR hlt);refine aH (bm hlt) (aH (KJ hl hB hg) ?_);have hj4:∀ q:Bool,(q=true->a=true/\xa b m.k[j]=true)->Ok (gS (j:Int) xs m.k[j] (MC b m.k[j],xa b m.k[j]) q) fun r=>match r with
    | .go s'=>j<m.k.length/\(s'.2.1=((j+1:Nat):Int)/\s'.2.2.length=j+1/\(s'.1=true->m.t=b.r/\s'.2.2=(m.k.take (j+1)).map fun k=>⟨k,yk (vK l (inB b) k)⟩))
    | .out r=>r.1=true->m.t=b.r/\r.2=m.k.map fun k=>⟨k,yk (vK l (inB b) k)⟩:=fun q hq=>by
   unfold gS;refine aH (DO (s:=MC b m.k[j]) (by have:=KI hl hB m.k[j]; omega)) (bY (du (by simp; omega)) (ai ⟨hlt,cH (by omega),by simp [h2],fun hq1=>?_⟩));obtain⟨q1,q2⟩:=hq hq1;obtain⟨q3,q4⟩:=h3 q1;refine⟨q3,?_⟩;show xs++[_]=_;rw [q4,bV (bA hlt),vT,hV.kn hg q2]; rfl
  exact aE (fun ha=>(hj4 _ fun hq=>⟨ha,hq⟩).mono fun y hy=>by cases y <;> exact hy) (fun _=>(hj4 _ fun hq=>(by cases hq)).mono fun y hy=>by cases y <;> exact hy)
 ·intro ha;obtain⟨q3,q4⟩:=h3 ha;refine⟨q3,?_⟩;rw [vI (by have:=of_decide_eq_false hlt; omega)] at q4;exact q4
theorem Hj (C:aV l) (hB:dF l b) (hh:VI l H b P):Ok (nJ b) fun y=>y.length<=8/\∀ x∈y,eU l x:=by
 have hl:=C.high;have hnr:=hB.nrec;have hV:=hh.verR C hB;have hin:inB b=H b.r:=funext hh.now;unfold nJ;refine bz (fun (j:Nat) (s:(List aq)×Int)=>s.2=j/\s.1.length<=j/\∀ x∈s.1,eU l x) (fun r=>r.length<=8/\∀ x∈r,eU l x) b.s.length ⟨rfl,bX _,fun x hx=>absurd hx cJ⟩ ?_ (fun r hr=>ai hr);rintro j ⟨o,i⟩ hj ⟨rfl,h2,h3⟩;dsimp only at h2 h3 ⊢;unfold mU;refine aE (fun hlt=>?_) (fun _=>ai ⟨by show o.length<=8; omega,h3⟩);have hlt:j<b.s.length:=by have:=of_decide_eq_true hlt; omega
 have hm:=dR hlt;refine aH (bm hlt) (CU C hB hV hm fun r hr=>?_);unfold jZ jY;refine aE (fun ha=>bY (du (by simp; omega)) (ai ⟨hlt,cH (by omega),by simp; omega,fun x hx=>?_⟩)) (fun _=>ai ⟨hlt,cH (by omega),by show o.length<=j+1; omega,h3⟩);rcases cD.1 hx with hx | hx
 ·exact h3 x hx
 ·obtain⟨q1,q2⟩:=hr ha;rw [bK.1 hx];have hm':=hB.recs _ hm;obtain⟨n,hn,e⟩:=hm'.key;obtain⟨e1,e2⟩:=hh.recv _ hm n _ (bA hn) e;rw [q1] at e1 e2;rw [<- hin] at e1 e2;exact⟨hm'.cost,inB b,n,l[n],hB.in8,bA hn,e,e1,by rw [<- e2]; exact q2⟩
end
end
end Go.Proofs.YtcpplgcgcbihoaaGreatDoor
