/- Texts of the proof, joined (7). -/
import Derived.Test.YtcpplgcgcbihoaaGreatDoorRows
import GoSem.ClaimGoes
import Derived.Test.YtcpplgcgcbihoaaGreatDoorB6
set_option linter.unusedVariables false
set_option linter.unusedSimpArgs false
set_option linter.unusedSectionVars false
namespace Go.Proofs.YtcpplgcgcbihoaaGreatDoor
open Go.RowKit
section
open Go
theorem Ev {P:Program} (h:P.funcs.any Func.goes=false) (f:FuncId):P.goes f=false:=by
 unfold Program.goes;rw [h,Bool.and_false,Bool.or_false];rw [Bool.eq_false_iff];intro hc;rw [Aw] at hc;obtain⟨g,_,hg⟩:=hc;cases hf:P.funcs[g]? with
 | none=>rw [hf] at hg; cases hg
 | some fn =>
  rw [hf] at hg;have:P.funcs.any Func.goes=true:=(Ot).2 ⟨fn,Array.mem_of_getElem? hf,by simpa using hg⟩;rw [h] at this;cases this
theorem wA {P:Program} (h:P.funcs.any Func.goes=false) (st:Start) (func:String):P.goesAt st func=false:=by
 have hf:P.goesFrom func=false:=by
  unfold Program.goesFrom;cases P.funcNamed func with
  | none=>rfl
  | some f=>exact Ev h f
 have hi:P.inits.toList.any P.goes=false:=by
  rw [Bool.eq_false_iff];intro hc;obtain⟨g,_,hg⟩:=Aw.1 hc;rw [Ev h g] at hg;cases hg
 unfold Program.goesAt;rw [hf,Bool.false_or];cases st <;> first | rfl | exact hi
end
section
open Go.Lib hiding intOf
def Gi (m:Option Bool) (P:Prop):Prop:=∃ v,m=some v/\(v=true↔P)
theorem NR (x y:ah):((y.k:Int)==x.k&&y.t.toList==x.t.toList)=decide (x=y):=by
 obtain⟨a,s⟩:=x;obtain⟨b,t⟩:=y;dsimp only;rw [HV];by_cases h1:b=a <;> by_cases h2:t=s
 ·subst h1; subst h2; simp
 ·rw [decide_eq_false h2,decide_eq_false (fun e=>h2 (congrArg ah.t e).symm),Bool.and_false]
 ·rw [beq_eq_false_iff_ne.2 h1,decide_eq_false (fun e=>h1 (congrArg ah.k e).symm),Bool.false_and]
 ·rw [beq_eq_false_iff_ne.2 h1,decide_eq_false (fun e=>h1 (congrArg ah.k e).symm),Bool.false_and]
theorem T1 {n m:Nat}:(((n:Int):Int) != (m:Int)) = !decide (n=m):=by
 by_cases h:n=m
 ·subst h; simp
 ·rw [decide_eq_false h,bne_iff_ne.2 (by omega)]; rfl
theorem yI {α ρ:Type} {x y:List α} {B:Int->Option (Fl Int (Fl Unit Bool))} (hn:x.length=y.length) (hs:∀ k (h1:k<x.length) (h2:k<y.length),x[k]=y[k]->B (k:Int)=some (.go ((k+1:Nat):Int))) (hf:∀ k (h1:k<x.length) (h2:k<y.length),x[k]≠y[k]->B (k:Int)=some (.out (.out false))) (hE:B (x.length:Int)=some (.out (.go ()))) {m:Option Bool} (hm:m=some true) :
  Gi ((loop B 0).bind fun r=>Fl.el r (fun _=>m) (fun z=>some z)) (x=y):=by
 obtain⟨h1,h2⟩:=Mf hn hs hf hE;by_cases e:x=y
 ·exact⟨true,by rw [h1 e]; exact hm,by simp [e]⟩
 ·exact⟨false,by rw [h2 e]; rfl,by simp [e]⟩
theorem Kf {a b:List ah} (h:a.length<=1000000000):Gi (jq a b) (a=b):=by
 unfold jq;rw [T1];by_cases hn:a.length=b.length
 ·rw [decide_eq_true hn,dJ,cond_false];refine yI (ρ:=Unit) hn (fun k h1 h2 e=>?_) (fun k h1 h2 e=>?_) ?_ rfl
  ·unfold eN;rw [dlt h1,cond_true,bq h1,ad,bq h2,ad,NR,decide_eq_true e,dJ,cond_false,cJ (by omega)]
  ·unfold eN;rw [dlt h1,cond_true,bq h1,ad,bq h2,ad,NR,decide_eq_false e,fv,cond_true]
  ·unfold eN;rw [bN]; rfl
 ·rw [decide_eq_false hn,fv,cond_true];exact⟨false,rfl,by simp; exact fun e=>hn (congrArg List.length e)⟩
theorem Ai {a b:ay} (h:a.v.length<=1000000000):Gi (iZ a b) (a=b):=by
 obtain⟨v,e,hv⟩:=Kf (a:=a.v) (b:=b.v) h;have O:=NR b.d a.d;have key:iZ a b=some (decide (b.d=a.d)&&(decide (a.u=b.u)&&(v&&(decide (a.x=b.x)&&(decide (a.c=b.c)&&(decide (a.h=b.h)&&decide (a.w=b.w))))))):=by
  unfold iZ dv;rw [O,HV,e,ad];have d1:((a.x:Int)==b.x)=decide (a.x=b.x):=rfl;have d2:((a.c:Int)==b.c)=decide (a.c=b.c):=rfl;have d3:((a.h:Int)==b.h)=decide (a.h=b.h):=rfl;have d4:(a.w==b.w)=decide (a.w=b.w):=by cases a.w <;> cases b.w <;> rfl
  rw [d1,d2,d3,d4];cases decide (b.d=a.d) <;> cases decide (a.u=b.u) <;> cases v <;> cases decide (a.x=b.x) <;> cases decide (a.c=b.c) <;> cases decide (a.h=b.h) <;> cases decide (a.w=b.w) <;> rfl
 refine⟨_,key,?_⟩;simp only [qj,decide_eq_true_eq,hv];obtain⟨a1,a2,a3,a4,a5,a6,a7⟩:=a;obtain⟨b1,b2,b3,b4,b5,b6,b7⟩:=b;dsimp only;constructor
 ·rintro⟨rfl,rfl,rfl,rfl,rfl,rfl,rfl⟩; rfl
 ·intro e;injection e with e1 e2 e3 e4 e5 e6 e7;exact⟨e1.symm,e2,e3,e4,e5,e6,e7⟩
theorem G7 {a b:List ay} (h:a.length<=1000000000) (hr:∀ r∈a,r.v.length<=1000000000):Gi (o3 a b) (a=b):=by
 unfold o3;rw [T1];by_cases hn:a.length=b.length
 ·rw [decide_eq_true hn,dJ,cond_false];refine yI (ρ:=Unit) hn (fun k h1 h2 e=>?_) (fun k h1 h2 e=>?_) ?_ rfl
  ·obtain⟨v,e1,hv⟩:=Ai (b:=b[k]) (hr _ (iK h1));unfold i6;rw [dlt h1,cond_true,bq h1,ad,bq h2,ad,e1,ad,hv.2 e,dJ,cond_false,cJ (by omega)]
  ·obtain⟨v,e1,hv⟩:=Ai (b:=b[k]) (hr _ (iK h1));have hv0:v=false:=by cases v; rfl; exact absurd (hv.1 rfl) e
   unfold i6;rw [dlt h1,cond_true,bq h1,ad,bq h2,ad,e1,ad,hv0,fv,cond_true]
  ·unfold i6;rw [bN]; rfl
 ·rw [decide_eq_false hn,fv,cond_true];exact⟨false,rfl,by simp; exact fun e=>hn (congrArg List.length e)⟩
theorem Sg {x y:bc} (h:x≠y):((y.d.k:Int)==x.d.k&&y.d.t.toList==x.d.t.toList&&y.u.toList==x.u.toList&&(y.x:Int)==x.x)=false:=by
 rw [NR,HV];refine Bool.eq_false_iff.2 fun hc=>h ?_;simp only [qj,decide_eq_true_eq,beq_iff_eq] at hc;obtain⟨a,s,c⟩:=x;obtain⟨b,t,d⟩:=y;obtain⟨⟨h1,h2⟩,h3⟩:=hc;dsimp only at h1 h2 h3;subst h1; subst h2; subst h3; rfl
theorem Sh {x y:bc} (h:x=y):((y.d.k:Int)==x.d.k&&y.d.t.toList==x.d.t.toList&&y.u.toList==x.u.toList&&(y.x:Int)==x.x)=true:=by subst h; simp
theorem G8 {a b:ao} (h:a.i.length<=1000000000) (hn:a.s.length<=1000000000) (hr:∀ r∈a.s,r.v.length<=1000000000):Gi (kl a b) (a=b):=by
 obtain⟨v,e,hv⟩:=G7 (b:=b.s) hn hr;unfold kl;by_cases h1:a.r=b.r
 ·rw [h1,show ((b.r:Int) != b.r)=false by simp,cond_false,T1];by_cases h2:a.i.length=b.i.length
  ·rw [decide_eq_true h2,dJ,cond_false,e,ad];cases v with
   | false=>exact⟨false,rfl,by simp; exact fun he=>by have:=hv.2 (congrArg ao.s he); cases this⟩
   | true =>
    have h3:=hv.1 rfl;have ht:=yI (ρ:=Unit) (B:=fun s:Int=>gL a b s) (x:=a.i) (y:=b.i) (m:=rp) h2 (fun k h1 h2 e=>by
     unfold gL;rw [dlt h1,cond_true,bq h1,ad,bq h2,ad,Sh e,dJ,cond_false,cJ (by omega)]) (fun k h1 h2 e=>by
     unfold gL;rw [dlt h1,cond_true,bq h1,ad,bq h2,ad,Sg e,fv,cond_true]) (by
     unfold gL;rw [bN]; rfl) rfl
    obtain⟨w,e2,hw⟩:=ht;refine⟨w,e2,hw.trans ⟨fun h4=>?_,fun h4=>congrArg ao.i h4⟩⟩;obtain⟨x1,x2,x3⟩:=a;obtain⟨y1,y2,y3⟩:=b;dsimp only at h1 h3 h4;subst h1; subst h3; subst h4; rfl
  ·rw [decide_eq_false h2,fv,cond_true];exact⟨false,rfl,by simp; exact fun e=>h2 (congrArg (fun z=>z.i.length) e)⟩
 ·rw [bne_iff_ne.2 h1,cond_true];exact⟨false,rfl,by simp; exact fun e=>h1 (congrArg ao.r e)⟩
theorem In {s:ByteArray} (h:s.size<16):bW s=some (⟨0,[],[]⟩,8):=by
 unfold bW fm;rw [lU (by omega) (by omega),decide_eq_true (by omega),cond_true,ad];rfl
theorem CE (t:List Int) (n:Int):ig t n=some true:=by
 rcases gD 400 t.length with ht | ht
 ·unfold ig;rw [wF (by omega),ad,vg]; rfl
 refine H9 ?_;unfold ig;refine aG (yH ht) ?_;simp only [dJ,cond_false];refine aG (v:=bv.mk t 0) rfl (ai (Ff (d:=t) (i:=0) ⟨by omega,by omega,ht⟩ (by omega) (by omega)) fun u ⟨C,hB,hrev,hd⟩=>?_);refine ai (GR C hB hd (most:=3) (by omega) (by omega) (by show u.2.1.r<=1000; omega)) fun c ⟨hB2,hrev2,hd2⟩=>?_;have hrev2:c.1.r<=u.2.1.r+3:=hrev2;have hl:=C.high;have hb:=zu hl hB;have hv:=wX hB hl;have hb2:=zu hl hB2;have hv2:=wX hB2 hl;have hsm:=yr hl hB;refine aG (xm hb hv) (aG (xm hb2 hv2) ?_);refine aG (IB (n:=11) (o:=eI u.2.1.r++(eI u.2.1.i.length++(u.2.1.i.flatMap wo++(eI u.2.1.s.length++u.2.1.s.flatMap lp)))) ⟨by omega,by omega⟩ (by omega) (by unfold gf at hsm; rw [bk] at hsm; omega)) ?_;refine ai (xP C hB (by omega) hd2) fun a ⟨a1,a2,hd3⟩=>?_;obtain⟨ha,hs⟩:=Gj hl a1 a2;have hvl:=Er C (by omega) a2;refine aG (Fd ha (by omega) (by omega) hvl) ?_;refine aG (IC (n:=12) (o:=eI a.1.length++a.1.flatMap vN) ⟨by omega,by omega⟩ (by omega) (by unfold uY at hs; rw [bk] at hs; omega)) ?_;obtain⟨i,hi,ei⟩:=FG n (m:=16) (by omega) (by omega);refine aG ei (bC (decide_eq_true (by omega)) (bC (dk (by omega)) ?_));refine aG (In (by rw [cg,List.length_replicate]; omega)) ?_;have hrm:=hB.rm hl;have h1:=hB.nin;have h2:=hB.nrec;obtain⟨v,e,hv3⟩:=G8 (a:=u.2.1) (b:=c.1) (by omega) (by omega) (fun r hr=>by have:=(hB.recs r hr).reads; omega);refine aG e ?_;have hpq:((i8 (gf u.2.1)).toList==(i8 (gf c.1)).toList)=v:=by
  rw [HV];cases v with
  | true=>rw [hv3.1 rfl]; simp
  | false =>
   refine decide_eq_false fun he=>?_;have e1:=qr hb hv;rw [he,qr hb2 hv2] at e1;have e3:=cC e1;have e2:c.1=u.2.1:=(Prod.mk.inj e3).1;have:=hv3.2 e2.symm;cases this
 show Ok (cond (((i8 (gf u.2.1)).toList==(i8 (gf c.1)).toList)==v) _ _) _;rw [hpq,beq_self_eq_true,cond_true];show Ok (dc.bind _) _;refine aG vg ?_;exact ae rfl
end
section
open Go.Lib hiding intOf
theorem Nm (a b:Int):(a==b)=decide (a=b):=by by_cases h:a=b <;> simp [h]
theorem MW {k:ah} (hs:k.t.size<=140737488355328):∃ b,dt k=some b/\cY k=some b:=by
 by_cases h:30<=k.k/\k.k<=32
 ·refine⟨decide (0<=BM k),?_,?_⟩
  ·unfold dt;rw [yY,decide_eq_true h,CR hs];rfl
  ·unfold cY gU;rw [decide_eq_true h.1,decide_eq_true h.2];simp only [cond_true];rw [qP];rfl
 ·have e2:cY k=gU k false:=by
   unfold cY;by_cases h1:30<=k.k
   ·rw [decide_eq_true h1,cond_true,decide_eq_false (fun h2=>h ⟨h1,h2⟩)]
   ·rw [decide_eq_false h1,cond_false]
  rw [e2];unfold dt gU jY iL e8 gJ fA;rw [yY,decide_eq_false h];simp only [ad,cond_false];by_cases h1:1<=k.k <;> by_cases h2:k.k<=22 <;> by_cases h3:(k.t.size:Int)<=1073741824 <;> by_cases h4:k.k=1 <;> by_cases h5:k.k=21 <;>
   cases h6:(k.t.toList==cr.toList) <;> simp [h1,h2,h3,h4,h5,Nm,bne]
noncomputable def vk (k:ah):Bool:=(dt k).getD false
theorem EX {k:ah} (h:k.t.size<=140737488355328):dt k=some (vk k)/\cY k=some (vk k):=by
 obtain⟨b,h1,h2⟩:=MW h;unfold vk;rw [h1,h2]; exact⟨rfl,rfl⟩
def GL (k:ah):Bool:=(k.k:Int)==1||(k.k:Int)==2||(k.k:Int)==30
theorem I8 (k:ah):pc k=some (GL k):=by
 unfold pc nA GL;cases (k.k:Int)==1 <;> cases (k.k:Int)==2 <;> cases (k.k:Int)==30 <;> rfl
theorem F7 {k:ah} (h:k.t.size<=140737488355328) (hv:vk k=true):k.t.size<=1073741824:=by
 have e:=(EX h).1;rw [hv] at e;by_cases ht:30<=k.k/\k.k<=32
 ·unfold dt at e;rw [yY,decide_eq_true ht,CR h] at e;have hn:0<=BM k:=by simpa using e
  have hl:k.t.toList.length<=9:=by
   refine DG fun hc=>?_;have hd:ta k.t.toList = -1:=by
    unfold ta;rw [if_pos (.inr (.inl (by omega)))]
   unfold BM CZ at hn;rw [if_pos ht,hd] at hn;split at hn <;> omega
  have:k.t.toList.length=k.t.size:=by rw [ByteArray.toList_eq,Array.length_toList]; rfl
  omega
 ·unfold dt jY iL e8 gJ at e;rw [yY,decide_eq_false ht] at e;simp only [ad,cond_false] at e;refine DG fun hc=>?_;have h3:¬ (k.t.size:Int)<=1073741824:=by omega
  by_cases h1:1<=k.k <;> by_cases h2:k.k<=22 <;> simp [h1,h2,h3] at e
theorem Py {f:ah->Option Bool} {s:List ah} (p:ah->Bool) (hl:Rm s.length) (hf:∀ x∈s,f x=some (p x)):iT f s=some (s.any p):=by
 unfold Rm at hl;have e:=qA (B:=fun k:Int=>gI s f k) (xs:=s) p (fun n=>(n:Int)) (s0:=0) rfl (y:=fun k _=>Fl.out (S:=Unit) (k:Int)) (n:=Fl.go ())
  (fun k x hx hp=>by
   have:=bh hx;unfold gI;rw [gO hx,cond_true,bn,hx,ad,hf _ (aD hx),hp,cJ (by omega)]; rfl)
  (fun k x hx hp=>by
   unfold gI;rw [gO hx,cond_true,bn,hx,ad,hf _ (aD hx),hp]; rfl)
  (by
   unfold gI;rw [bN]; rfl)
 unfold iT qv;rcases e with⟨k,x,h1,h2,_,h3⟩|⟨h1,h2⟩
 ·rw [h3,Aw.2 ⟨x,aD h1,h2⟩];show some (decide ((0:Int)<=(k:Int)))=some true;rw [decide_eq_true (by omega)]
 ·rw [h2,BB.2 fun x hx=>by rw [h1 x hx]; decide]; rfl
theorem Pz {f:ay->Option Bool} {g:ay->Bool} {s:List ay} (hl:Rm s.length) (h:∀ x∈s,f x=some (g x)):bz f s=some (s.any g):=by
 unfold Rm at hl;have e:=qA (B:=fun k:Int=>eC s f k) (xs:=s) g (fun n=>(n:Int)) (s0:=0) rfl (y:=fun k _=>Fl.out (S:=Unit) (k:Int)) (n:=Fl.go ())
  (fun k x hx hp=>by
   have:=bh hx;unfold eC;rw [gO hx,cond_true,bn,hx,ad,h _ (aD hx),hp,cJ (by omega)]; rfl)
  (fun k x hx hp=>by
   unfold eC;rw [gO hx,cond_true,bn,hx,ad,h _ (aD hx),hp]; rfl)
  (by
   unfold eC;rw [bN]; rfl)
 unfold bz mh;rcases e with⟨k,x,h1,h2,_,h3⟩|⟨h1,h2⟩
 ·rw [h3,Aw.2 ⟨x,aD h1,h2⟩];show some (decide ((0:Int)<=(k:Int)))=some true;rw [decide_eq_true (by omega)]
 ·rw [h2,BB.2 fun x hx=>by rw [h1 x hx]; decide]; rfl
structure Pv (r:ay):Prop where
 reads:r.v.length<=1000000
 text:r.d.t.size<=140737488355328
 texts:∀ k∈r.v,k.t.size<=140737488355328
noncomputable def QL (r:ay):Bool:=vk r.d && !GL r.d&&decide ((r.u.size:Int)<=1073741824)&&decide ((r.v.length:Int)<=4000)&&(!r.w||rI r.d)&&decide (0<=r.x)&&decide (r.x<=r.c)&&decide (r.c<=1073741824)&&decide (1<=r.h)&&decide (r.h<=1073741824) && !(r.v.any fun k=>!vk k)
theorem R7 (a b:Int):decide (b<a) = !decide (a<=b):=by
 by_cases h:a<=b
 ·rw [decide_eq_true h,decide_eq_false (by omega)]; rfl
 ·rw [decide_eq_false h,decide_eq_true (by omega)]; rfl
theorem Iv {r:ay} (h:Pv r):lF r=some (QL r)/\m4 r=some (QL r):=by
 have hl:=h.reads;obtain⟨k1,k2⟩:=EX h.text;have hi:=I8 r.d;have hi2:cO r.d=some (GL r.d):=by rw [<- CS]; exact hi
 have c1:=EE r.d;have c2:=im r.d;have hc:iT jp r.v=some (r.v.any fun k=>!vk k):=Py (fun k=>!vk k) (by unfold Rm; omega) fun k O=>by
  unfold jp;rw [(EX (h.texts k O)).1]; rfl
 have hlp:loop (fun s:Int=>fC r s) 0=some (if (r.v.any fun k=>!vk k) then Fl.out false else Fl.go ()):=by
  refine pC (xs:=r.v) (fun k=>!vk k) (fun i=>(i:Int)) rfl (fun i k O hp=>?_) (fun i k O hp=>?_) ?_
  ·unfold fC;rw [gO O,cond_true,bn,O,ad,(EX (h.texts k (aD O))).2,ad,hp,cond_false,cJ (by have:=bh O; omega)]
  ·unfold fC;rw [gO O,cond_true,bn,O,ad,(EX (h.texts k (aD O))).2,ad,hp,cond_true]
  ·unfold fC;rw [bN]; rfl
 unfold QL;obtain⟨an,han⟩:∃ an,an=r.v.any fun k=>!vk k:=⟨_,rfl⟩;rw [<- han] at hc hlp ⊢;refine⟨?_,?_⟩
 ·unfold lF dH e9;rw [k1,hi,c1,hc,R7,R7];generalize vk r.d=v;generalize GL r.d=i;generalize rI r.d=c;generalize decide ((r.u.size:Int)<=1073741824)=x1;generalize decide ((r.v.length:Int)<=4000)=x2;generalize decide (0<=r.x)=x3;generalize decide (r.x<=r.c)=x4;generalize decide (r.c<=1073741824)=x5;generalize decide (1<=r.h)=x6;generalize decide (r.h<=1073741824)=x7;cases v <;> cases i <;> try rfl
  cases x1 <;> cases x2 <;> try rfl
  cases r.w <;> cases c <;> cases x3 <;> cases x4 <;> cases x5 <;> cases x6 <;> cases x7 <;> rfl
 ·unfold m4;rw [hlp,ad];cases an
  ·simp only [E1,if_false,Fl.el];unfold kY cQ;rw [k2,hi2,c2];generalize vk r.d=v;generalize GL r.d=i;generalize rI r.d=c;generalize decide ((r.u.size:Int)<=1073741824)=x1;generalize decide ((r.v.length:Int)<=4000)=x2;generalize decide (0<=r.x)=x3;generalize decide (r.x<=r.c)=x4;generalize decide (r.c<=1073741824)=x5;generalize decide (1<=r.h)=x6;generalize decide (r.h<=1073741824)=x7;cases v <;> cases i <;> try rfl
   cases x1 <;> cases x2 <;> try rfl
   cases r.w <;> cases c <;> cases x3 <;> cases x4 <;> cases x5 <;> cases x6 <;> cases x7 <;> rfl
  ·simp [Fl.el]
noncomputable def DR (l:List ay) (k:Nat):Bool:=match l[k]? with
 | none=>false
 | some c=>!(QL c)||(match k with
  | 0=>false
  | j+1=>match l[j]? with
   | none=>false
   | some p=>decide (0<=dC p.d c.d))
theorem rQ {n k x:Nat} (h:(List.range n)[k]? = some x):x=k/\k<n:=by
 obtain⟨h1,h2⟩:=cu.1 h;rw [BC] at h1;rw [List.getElem_range] at h2;exact⟨h2.symm,h1⟩
section
variable {l:List ay} (hs:∀ c∈l,Pv c) (hl:l.length<=1000000)
include hs hl
theorem vi {k:Nat} (O:k<l.length):di l (k:Int)=some (bif DR l k then .out (.out false) else .go ((k+1:Nat):Int))/\dD l (k:Int)=some (bif DR l k then .out (.out false) else .go ((k+1:Nat):Int)):=by
 obtain⟨c,hx⟩:∃ c,l[k]? = some c:=⟨_,cH O⟩;have hc:=Iv (hs c (aD hx));unfold di dD DR;rw [gO hx,cond_true,cond_true,bn,hx,ad,ad,hc.1,hc.2,ad,ad];dsimp only;unfold dO em;rw [cJ (by omega)];generalize QL c=v
 match k,O with
 | 0,_ =>
  rw [show decide ((0:Int)<((0:Nat):Int))=false from rfl];dsimp only;cases v <;> exact⟨rfl,rfl⟩
 | j+1,O =>
  obtain⟨p,hp⟩:∃ p,l[j]? = some p:=⟨_,cH (by omega)⟩;rw [decide_eq_true (show (0:Int)<((j+1:Nat):Int) by omega),show IntKind.i64.wrap (((j+1:Nat):Int)-1)=(j:Int) by rw [lU (by omega) (by omega)]; omega,bn];dsimp only;rw [hp];dsimp only;simp only [ad,Fi,mC];generalize decide (0<=dC p.d c.d)=q;cases v <;> cases q <;> exact⟨rfl,rfl⟩
omit hs hl in
noncomputable def QB (l:List ay):Bool:=!((List.range l.length).any (DR l))&&decide ((l.length:Int)<=4000)
theorem Iy:gv l=some (QB l)/\iy l=some (QB l):=by
 have e1:loop (fun s:Int=>di l s) 0=some (if (List.range l.length).any (DR l) then Fl.out false else Fl.go ()) :=
  pC (xs:=List.range l.length) (DR l) (fun n=>(n:Int)) rfl
   (fun k x h hp=>by obtain⟨rfl,h1⟩:=rQ h; rw [(vi hs hl h1).1,hp]; rfl)
   (fun k x h hp=>by obtain⟨rfl,h1⟩:=rQ h; rw [(vi hs hl h1).1,hp]; rfl)
   (by rw [BC]; unfold di; rw [bN]; rfl)
 have e2:loop (fun s:Int=>dD l s) 0=some (if (List.range l.length).any (DR l) then Fl.out false else Fl.go ()) :=
  pC (xs:=List.range l.length) (DR l) (fun n=>(n:Int)) rfl
   (fun k x h hp=>by obtain⟨rfl,h1⟩:=rQ h; rw [(vi hs hl h1).2,hp]; rfl)
   (fun k x h hp=>by obtain⟨rfl,h1⟩:=rQ h; rw [(vi hs hl h1).2,hp]; rfl)
   (by rw [BC]; unfold dD; rw [bN]; rfl)
 unfold gv iy QB;rw [e1,e2];cases (List.range l.length).any (DR l) <;> exact⟨rfl,rfl⟩
end
structure zq (b:ao):Prop where
 nin:b.i.length<=1000000
 nrec:b.s.length<=1000000
 recs:∀ r∈b.s,Pv r
 ins:∀ x∈b.i,x.d.t.size<=140737488355328
noncomputable def Cg (b:ao) (k:Nat):Bool:=match b.i[k]? with
 | none=>false
 | some c=>!(vk c.d)||(!(GL c.d)||((match k with
  | 0=>false
  | j+1=>match b.i[j]? with
   | none=>false
   | some p=>decide (0<=dC p.d c.d))||(decide ((1073741824:Int)<(c.u.size:Int))||(decide (c.x<0)||decide (b.r<c.x)))))
section
variable {b:ao} (h:zq b)
include h
theorem vh {k:Nat} (O:k<b.i.length):dU b (k:Int)=some (bif Cg b k then .out (.out false) else .go ((k+1:Nat):Int))/\fG b (k:Int)=some (bif Cg b k then .out (.out false) else .go ((k+1:Nat):Int)):=by
 have hn:=h.nin;obtain⟨c,hx⟩:∃ c,b.i[k]? = some c:=⟨_,cH O⟩;have hc:=EX (h.ins c (aD hx));unfold dU fG Cg lj j9;rw [gO hx,cond_true,cond_true,bn,hx,ad,ad,hc.1,hc.2,ad,ad,<- CS,I8,ad,ad];dsimp only;unfold cG cZ;rw [cJ (by omega)];generalize vk c.d=v;generalize GL c.d=i;generalize decide ((1073741824:Int)<(c.u.size:Int))=s;generalize decide ((c.x:Int)<0)=s1;generalize decide ((b.r:Int)<c.x)=s2
 match k,O with
 | 0,_ =>
  rw [show decide ((0:Int)<((0:Nat):Int))=false from rfl];dsimp only;cases v <;> cases i <;> cases s <;> cases s1 <;> cases s2 <;> exact⟨rfl,rfl⟩
 | j+1,O =>
  obtain⟨p,hp⟩:∃ p,b.i[j]? = some p:=⟨_,cH (by omega)⟩;rw [decide_eq_true (show (0:Int)<((j+1:Nat):Int) by omega),show IntKind.i64.wrap (((j+1:Nat):Int)-1)=(j:Int) by rw [lU (by omega) (by omega)]; omega,bn];dsimp only;rw [hp];dsimp only;simp only [ad,Fi,mC];generalize decide (0<=dC p.d c.d)=q;cases v <;> cases i <;> cases s <;> cases s1 <;> cases s2 <;> cases q <;> exact⟨rfl,rfl⟩
omit h in
noncomputable def Na (b:ao):Bool:=decide (0<=b.r)&&decide (b.r<=1073741824)&&decide ((b.i.length:Int)<=64)&&QB b.s && !((List.range b.i.length).any (Cg b)) && !(b.s.any fun x=>decide (b.r<x.c))
theorem A6:eu b=some (Na b)/\ge b=some (Na b):=by
 have hn:=h.nin;have hr:=h.nrec;obtain⟨v1,v2⟩:=Iy h.recs (by omega);have e1:loop (fun s:Int=>dU b s) 0=some (if (List.range b.i.length).any (Cg b) then Fl.out false else Fl.go ()) :=
  pC (xs:=List.range b.i.length) (Cg b) (fun n=>(n:Int)) rfl
   (fun k x hx hp=>by obtain⟨rfl,h1⟩:=rQ hx; rw [(vh h h1).1,hp]; rfl)
   (fun k x hx hp=>by obtain⟨rfl,h1⟩:=rQ hx; rw [(vh h h1).1,hp]; rfl)
   (by rw [BC]; unfold dU; rw [bN]; rfl)
 have e2:loop (fun s:Int=>fG b s) 0=some (if (List.range b.i.length).any (Cg b) then Fl.out false else Fl.go ()) :=
  pC (xs:=List.range b.i.length) (Cg b) (fun n=>(n:Int)) rfl
   (fun k x hx hp=>by obtain⟨rfl,h1⟩:=rQ hx; rw [(vh h h1).2,hp]; rfl)
   (fun k x hx hp=>by obtain⟨rfl,h1⟩:=rQ hx; rw [(vh h h1).2,hp]; rfl)
   (by rw [BC]; unfold fG; rw [bN]; rfl)
 have e3:loop (fun s:Int=>fF b s) 0=some (if b.s.any (fun x=>decide (b.r<x.c)) then Fl.out false else Fl.go ()) :=
  pC (xs:=b.s) (fun x=>decide (b.r<x.c)) (fun n=>(n:Int)) rfl
   (fun k x hx hp=>by have:=bh hx; unfold fF; rw [gO hx,cond_true,bn,hx,ad,hp,cJ (by omega)]; rfl)
   (fun k x hx hp=>by unfold fF; rw [gO hx,cond_true,bn,hx,ad,hp]; rfl)
   (by unfold fF; rw [bN]; rfl)
 have e4:bz (fun x0=>jj x0 b) b.s=some (b.s.any fun x=>decide (b.r<x.c)):=Pz (by unfold Rm; omega) fun x _=>rfl;unfold Na;constructor
 ·unfold eu io;rw [v1,e1,e4,R7 b.r 1073741824,R7 (b.i.length:Int) 64,show decide ((b.r:Int)<0) = !decide (0<=b.r) from R7 0 b.r];generalize decide (0<=b.r)=x1;generalize decide (b.r<=1073741824)=x2;generalize decide ((b.i.length:Int)<=64)=x6;generalize QB b.s=x3;generalize (List.range b.i.length).any (Cg b)=x4;generalize (b.s.any fun x=>decide (b.r<x.c))=x5;cases x1 <;> cases x2 <;> cases x6 <;> cases x3 <;> cases x4 <;> cases x5 <;> rfl
 ·unfold ge k7 k6 jw;rw [v2,e2,e3];generalize decide (0<=b.r)=x1;generalize decide (b.r<=1073741824)=x2;generalize decide ((b.i.length:Int)<=64)=x6;generalize QB b.s=x3;generalize (List.range b.i.length).any (Cg b)=x4;generalize (b.s.any fun x=>decide (b.r<x.c))=x5;cases x1 <;> cases x2 <;> cases x6 <;> cases x3 <;> cases x4 <;> cases x5 <;> rfl
omit h in
theorem F6 {k:ah} (hv:vk k=true):ve k.k:=by
 unfold vk at hv;by_cases ht:30<=k.k/\k.k<=32
 ·exact⟨by omega,by omega⟩
 ·by_cases h1:1<=k.k
  ·by_cases h2:k.k<=22
   ·exact⟨by omega,by omega⟩
   ·unfold dt jY iL e8 gJ at hv;rw [yY,decide_eq_false ht] at hv;simp [h1,h2] at hv
  ·unfold dt jY iL e8 gJ at hv;rw [yY,decide_eq_false ht] at hv;simp [h1] at hv
structure II (b:ao):Prop where
 rev:ve b.r
 nin:b.i.length<=64
 nrec:b.s.length<=4000
 ins:∀ x∈b.i,HN x
 recs:∀ r∈b.s,Bj r
theorem MY (hv:Na b=true):II b:=by
 unfold Na at hv;simp only [qj,tI,BB,vS,decide_eq_true_eq] at hv;obtain⟨⟨⟨⟨⟨v1,v2⟩,v3⟩,v4⟩,v5⟩,v6⟩:=hv;unfold QB at v4;simp only [qj,tI,BB,vS,decide_eq_true_eq] at v4;obtain⟨w1,w2⟩:=v4;refine⟨⟨v1,by omega⟩,by omega,by omega,fun x hx=>?_,fun r hr=>?_⟩
 ·obtain⟨k,O⟩:=nP.1 hx;have hb:=v5 k (bh O);unfold Cg at hb;rw [O] at hb;dsimp only at hb;simp only [yg,not_or,tI,Hv,Bool.not_eq_false,decide_eq_true_eq] at hb;obtain⟨b1,b2,b3,b4,b5,b6⟩:=hb;have hi:=h.ins x hx;exact⟨⟨F6 b1,⟨by omega,by omega⟩⟩,F7 hi b1,by omega⟩
 ·obtain⟨k,O⟩:=nP.1 hr;have hb:=w1 k (bh O);unfold DR at hb;rw [O] at hb;dsimp only at hb;simp only [yg,not_or,tI,Hv,Bool.not_eq_false] at hb;have hv:=hb.1;unfold QL at hv;simp only [qj,decide_eq_true_eq,tI,BB] at hv;obtain⟨⟨⟨⟨⟨⟨⟨⟨⟨⟨u1,u2⟩,u3⟩,u4⟩,u5⟩,u6⟩,u7⟩,u8⟩,u9⟩,u10⟩,u11⟩:=hv;have hB:=h.recs r hr;have hk2:∀ q∈r.v,vk q=true:=fun q hq=>by
   have:=u11 q hq;cases hz:vk q with
   | true=>rfl
   | false=>rw [hz] at this; exact absurd rfl this
  exact⟨⟨F6 u1,fun q hq=>F6 (hk2 q hq),by omega,⟨by omega,by omega⟩,⟨by omega,by omega⟩,⟨by omega,by omega⟩⟩,F7 hB.text u1,by omega,fun q hq=>F7 (hB.texts q hq) (hk2 q hq)⟩
omit h in
theorem II.rd (hv:II b) (hs:(gf b).length<=140000000000000):yn b:=⟨hv.rev,by have:=hv.nin; omega,by have:=hv.nrec; omega,hv.ins,hv.recs,hs⟩
end
end
section
open Go.Lib hiding intOf
variable {N:Nat} {α:Type} {W:α->List Int} {k n:Nat} {o w:List Int} {xs:List α} {y:List Int}
theorem B5 (hN:N<18446744073709551616):gK (N:Int)=some (aV (eI N)):=by
 have hl:(eI (N:Int)).length=8:=rfl;unfold gK;rw [show loop (fun s:(List Int)×Int=>gc (N:Int) s.1 s.2) (([]:List Int),56)=some (eI N) from
  mK (B:=fun s:(List Int)×Int=>gc (N:Int) s.1 s.2) (fun k=>((eI N).take k,56-8*(k:Int))) 8 (by simp) (fun k O=>by
   dsimp only;unfold gc;have hg:(eI (N:Int))[k]? = some ((hb N (7-k):Nat):Int):=by
    unfold eI;rw [sf,sC,yM N O]; rfl
   have e0:56-8*(k:Int)=((8*(7-k):Nat):Int):=by omega
   have e:IntKind.u8.wrap (kf .u64 (N:Int) (IntKind.u64.wrap (56-8*(k:Int))))=((hb N (7-k):Nat):Int):=by
    rw [e0,tH (by omega),SO (by omega),Po]; rfl
   rw [decide_eq_true (by omega),cond_true,e,e0,tH (by omega),decide_eq_true (by omega),dk (by simp; omega)];simp only [gd,cond_true];rw [lU (by omega) (by omega),bX hg,show ((8*(7-k):Nat):Int)-8=56-8*((k+1:Nat):Int) by omega]) (by
   dsimp only;unfold gc;rw [decide_eq_false (by omega),cond_false,Ba (by omega)]),ad]
 rfl
theorem vK {n:Int} (hn:ve n):dz n=some (aV (eI n)):=by
 obtain⟨h1,h2⟩:=hn;obtain⟨N,rfl⟩:∃ N:Nat,n=N:=⟨n.toNat,by omega⟩;unfold dz;rw [tH (by omega),B5 (by omega)]; rfl
theorem Mw (hn:n<=1000000):dz (n:Int)=some (aV (eI n)):=vK ⟨by omega,by omega⟩
theorem Ha {a b:List Int} (h:a.length+b.length<=140737488355328):Nat.ble ((aV a).size+(aV b).size) 140737488355328=true:=sw (by rw [cg,cg]; exact h)
theorem FV {s:ByteArray} (hs:s.size<=1073741824):mB s=some (aV (nv s)):=by
 unfold mB;rw [tH (by omega),B5 (by omega),ad];rw [show Nat.ble ((aV (eI (s.size:Int))).size+s.size) 140737488355328=true from sw (by rw [cg,bT]; omega)];simp only [gd,cond_true];unfold nv;rw [<- eZ,lS]
theorem FT {k:ah} (O:ve k.k) (hs:k.t.size<=1073741824):ld k=some (aV (lV k)):=by
 unfold ld;rw [vK O,ad,FV hs,ad,Ha (by rw [bT,gB]; omega)];simp only [gd,cond_true];rw [eZ]; rfl
theorem xw {d:df} (h1:ve d.d1) (h2:0<=d.b1/\d.b1<18446744073709551616):iW d=some (aV (o9 d)):=by
 obtain⟨a1,a2⟩:=h1;obtain⟨N,hN⟩:∃ N:Nat,d.d1=N:=⟨d.d1.toNat,by omega⟩;obtain⟨M,B⟩:∃ M:Nat,d.b1=M:=⟨d.b1.toNat,by omega⟩;unfold iW o9;rw [hN,B,tH (by omega),B5 (by omega),ad,B5 (by omega),ad,Ha (by rw [bT,bT]; omega)];simp only [gd,cond_true];rw [eZ]
theorem Mz (h:o.length<=140000000000000):ni (aV o)=some (i8 o):=by
 have hs:(aV o).size<=140000000000000:=by rw [cg]; omega
 obtain⟨d1,d2,d3⟩:=vn hs;unfold ni;rw [s5 hs,ad,xw d1 ⟨d2,d3⟩,ad,Ha (by rw [uZ]; omega)];rfl
theorem Dq {ρ:Type} {g:ByteArray->ρ} {F:ByteArray->Int->Option (Fl (ByteArray×Int) ρ)} (ho:o.length+(xs.flatMap W).length<=140000000000000)
  (hF:∀ (k:Nat) (x:α) (w:List Int),xs[k]? = some x->w.length+(W x).length<=140000000000000->F (aV w) (k:Int)=some (.go (aV (w++W x),((k+1:Nat):Int)))) (hE:∀ w,F w (xs.length:Int)=some (.out (g w))):loop (fun s:ByteArray×Int=>F s.1 s.2) (aV o,0)=some (g (aV (o++xs.flatMap W))):=by
 refine ej (xs:=xs) (fun k=>(aV (o++(xs.take k).flatMap W),(k:Int))) (by simp) (fun k x hx=>?_) ?_
 ·dsimp only;have h1:((xs.take (k+1)).flatMap W).length<=(xs.flatMap W).length:=by
   conv=>rhs; rw [<- qV (k+1) xs,yj,bk]
   omega
  rw [bX hx,yj,bk,show ([x]:List α).flatMap W=W x by simp] at h1;rw [hF k x _ hx (by rw [bk]; omega),bX hx,yj,fq];simp
 ·dsimp only;rw [hE,fW]
theorem CW {x:α} (h:x∈xs):(W x).length<=(xs.flatMap W).length:=by
 obtain⟨a,b,rfl⟩:=List.append_of_mem h;rw [yj,wd,bk,bk]; omega
section
variable {b:ao}
theorem SJ {x:bc} (hx:b.i[k]? = some x) (h:HN x) (O:k<1000000) (hw:w.length+(wo x).length<=140000000000000):kq b (aV w) (k:Int)=some (.go (aV (w++wo x),((k+1:Nat):Int))):=by
 have h1:=h.text;have h2:=h.value;rw [xF] at hw;unfold kq;rw [gO hx,cond_true,bn,hx,ad,FT h.w.key h1,ad,FV h2,ad,Ha (by rw [dI,gB]; omega)];simp only [gd,cond_true];rw [vK h.w.chg,ad,eZ,Ha (by rw [bk,dI,gB,bT]; omega),cond_true,eZ,Ha (by simp only [bk,dI,gB,bT]; omega),cond_true,eZ,cJ (by omega)];unfold wo;simp only [fq]
theorem N3 {r:ay} (h:Bj r) (hn:r.v.length<=1000000) (hw:w.length+(r.v.flatMap lV).length<=140000000000000):loop (fun s:ByteArray×Int=>ko r s.1 s.2) (aV w,0)=some (aV (w++r.v.flatMap lV)) :=
 Dq (g:=id) (W:=lV) (xs:=r.v) (F:=ko r) hw (fun k x w hx hw=>by
  have O:=bh hx;have hm:=aD hx;unfold ko;rw [gO hx,cond_true,bn,hx,ad,FT (h.w.reads x hm) (h.texts x hm),ad,Ha (by omega)];simp only [gd,cond_true];rw [eZ,cJ (by omega)]) (fun w=>by
  unfold ko;rw [bN]; rfl)
theorem Qf {r:ay} (hx:b.s[k]? = some r) (h:Bj r) (O:k<1000000) (hw:w.length+(lp r).length<=140000000000000):kp b (aV w) (k:Int)=some (.go (aV (w++lp r),((k+1:Nat):Int))):=by
 have h1:=h.text;have h2:=h.value;have hf:=h.w.few;have e:=u0 r;rw [e] at hw;unfold kp;rw [gO hx,cond_true,bn,hx,ad,FT h.w.key h1,ad,FV h2,ad,Ha (by rw [dI,gB]; omega)];simp only [gd,cond_true];rw [Mw hf,ad,eZ,Ha (by rw [bk,dI,gB,bT]; omega),cond_true,eZ,Ha (by simp only [bk,dI,gB,bT]; omega),cond_true,eZ,
  N3 h hf (by simp only [bk,dI,gB,bT]; omega),ad]
 have hj:∀ d:Int,ve d->mA (k:Int) r (aV ((w++(lV r.d++nv r.u++eI r.v.length))++r.v.flatMap lV)) d=some (.go (aV (((w++(lV r.d++nv r.u++eI r.v.length))++r.v.flatMap lV)++(((eI r.x++eI r.c)++eI r.h)++eI d)),((k+1:Nat):Int))):=fun d hd=>by
  unfold mA ry;rw [vK h.w.chg,ad,vK h.w.ver,ad,Ha (by simp only [bT]; omega)];simp only [gd,cond_true];rw [vK h.w.cost,ad,eZ,Ha (by simp only [bk,bT]; omega),cond_true,vK hd,ad,eZ,Ha (by simp only [bk,bT]; omega),cond_true,eZ,Ha (by simp only [bk,dI,gB,bT]; omega),cond_true,eZ,cJ (by omega)]
 unfold rA;cases hd:r.w
 ·rw [cond_false,hj 0 ⟨by omega,by omega⟩];unfold lp;rw [hd];simp only [fq,E1,if_false]
 ·rw [cond_true,hj 1 ⟨by omega,by omega⟩];unfold lp;rw [hd];simp only [fq,if_true]
theorem zT (h:yn b) (hv:ge b=some true):fK b=some (i8 (gf b)):=by
 have hs:=h.small;have e:=mD b;rw [e] at hs;unfold fK;rw [hv,ad,dJ,cond_false,vK ⟨by omega,by omega⟩,ad,vK h.rev,ad,Ha (by simp only [bT]; omega)];simp only [gd,cond_true];rw [Mw h.nin,ad,eZ,Ha (by simp only [bk,bT]; omega),cond_true,eZ,
  Dq (g:=id) (W:=wo) (xs:=b.i) (F:=kq b) (by simp only [bk,bT]; omega) (fun k x w hx hw=>SJ hx (h.ins x (aD hx)) (by have:=bh hx; have:=h.nin; omega) hw) (fun w=>by
   unfold kq;rw [bN]; rfl),ad]
 unfold rB;rw [Mw h.nrec,ad];dsimp only [id];rw [Ha (by simp only [bk,bT]; omega)];simp only [gd,cond_true];rw [eZ,Dq (g:=id) (W:=lp) (xs:=b.s) (F:=kp b) (by simp only [bk,bT]; omega) (fun k x w hx hw=>Qf hx (h.recs x (aD hx)) (by have:=bh hx; have:=h.nrec; omega) hw) (fun w=>by
   unfold kp;rw [bN]; rfl),ad]
 unfold rx;dsimp only [id];have e2:((((eI 11++eI b.r)++eI b.i.length)++b.i.flatMap wo)++eI b.s.length)++b.s.flatMap lp=gf b:=by
  unfold gf; simp only [fq]
 rw [e2,Mz h.small]; rfl
end
theorem My (hN:N<18446744073709551616):o2 (aV (eI N))=some (N:Int):=by
 unfold o2;rw [show loop (fun s:Int×Int=>iX (aV (eI (N:Int))) s.1 s.2) (0,0)=some (N:Int) from
  mK (B:=fun s:Int×Int=>iX (aV (eI (N:Int))) s.1 s.2) (fun k=>(((N / 256 ^ (8-k):Nat):Int),(k:Int))) 8 (by
   have:N / 256 ^ 8=0:=Bb (by omega);show ((0:Int),(0:Int))=(((N / 256 ^ 8:Nat):Int),((0:Nat):Int));rw [this]; rfl) (fun k O=>by
   dsimp only;unfold iX;have hg:(aV (eI (N:Int))).toList[k]? = some (UInt8.ofNat (hb N (7-k))):=by
    rw [qh];unfold eI;rw [AA,sf,sC,yM N O]; rfl
   have hlt:N / 256 ^ (8-k)<72057594037927936:=by
    have h3:256 ^ 1<=256 ^ (8-k):=ux (by omega) (by omega);have h4:N / 256 ^ (8-k)<=N / 256 ^ 1:=Gb h3 (by omega);have h5:N / 256 ^ 1<72057594037927936:=by rw [Nat.pow_one]; omega
    omega
   have hb8:=zE N (7-k);rw [show decide ((k:Int)<8)=true from decide_eq_true (by omega),cond_true,bn,hg,ad,UInt8.toNat_ofNat',y9 (by omega),Mb hlt (zE _ _),cJ (by omega)];have:=zF N (7-k);rw [show 7-k+1=8-k by omega] at this;rw [<- this,show 8-(k+1)=7-k by omega]) (by
   dsimp only;unfold iX;rw [show decide (((8:Nat):Int)<8)=false from rfl,cond_false];rw [show 8-8=0 from rfl,DD,Bc]),ad]
 rfl
theorem Al (x y:List Int):ln (aV (x++y)) 0 (x.length:Int)=some (aV x):=by
 have:=me (l:=x++y) (a:=0) (b:=x.length) (bY _) (by rw [bk]; omega);rw [Ga rfl,yh] at this;exact this
theorem Am (x y:List Int):ln (aV (x++y)) (x.length:Int) ((aV (x++y)).size:Int)=some (aV y):=by
 have:=me (l:=x++y) (a:=x.length) (b:=(x++y).length) (by rw [bk]; omega) (cm _);rw [fW,JO rfl] at this;rw [cg];exact this
theorem Qq (hN:N<18446744073709551616):bx ⟨aV (eI N++y),false⟩=some (IntKind.i64.wrap (N:Int),⟨aV y,false⟩):=by
 have h1:=Al (eI N) y;have h2:=Am (eI N) y;rw [show (((eI (N:Int)).length:Nat):Int)=8 from rfl] at h1 h2;unfold bx;dsimp only;rw [cond_false,decide_eq_false (by rw [cg,bk,bT]; omega),cond_false,h1,ad,My hN,ad,h2,ad]
theorem su {n:Int} (hn:ve n):bx ⟨aV (eI n++y),false⟩=some (n,⟨aV y,false⟩):=by
 obtain⟨h1,h2⟩:=hn;obtain⟨N,rfl⟩:∃ N:Nat,n=N:=⟨n.toNat,by omega⟩;rw [Qq (by omega),lU (by omega) (by omega)]
theorem FU {s:ByteArray}:dS ⟨aV (cy s++y),false⟩ (s.size:Int)=some (s,⟨aV y,false⟩):=by
 have h1:=Al (cy s) y;have h2:=Am (cy s) y;rw [cP] at h1 h2;unfold dS;dsimp only;rw [cond_false,decide_eq_false (by omega),cond_false,decide_eq_false (by rw [cg,bk,cP]; omega),cond_false,h1,ad,h2,ad,lS]
theorem Ig {k:ah} (O:ve k.k) (hs:k.t.size<=1073741824):eG ⟨aV (lV k++y),false⟩=some (k,⟨aV y,false⟩):=by
 unfold eG lV nv;simp only [fq];rw [su O,ad];dsimp only;rw [su ⟨by omega,by omega⟩,ad];dsimp only;rw [FU,ad]
theorem Dj {c:Nat} {z:Int} (e:z=(c:Int)) (hn:n<=1000000) (hc:0<c) (h:n*c<=y.length) (hy:y.length<=140000000000000):dE ⟨aV (eI n++y),false⟩ z=some ((n:Int),⟨aV y,false⟩):=by
 subst e;have h1:n<=y.length / c:=(Nat.le_div_iff_mul_le hc).2 h;have h2:y.length / c<=y.length:=Nat.div_le_self _ _;unfold dE;rw [su ⟨by omega,by omega⟩,ad];dsimp only;rw [decide_eq_false (by omega),cond_false,show ((c:Int) != 0)=true from bne_iff_ne.2 (by omega),cg,show Int.tdiv (y.length:Int) (c:Int)=((y.length / c:Nat):Int) from rfl,lU (by omega) (by omega),decide_eq_false (by omega)];rfl
theorem Ii {F:Int->ByteArray->Bool->List α->Option (Fl (Int×ByteArray×Bool×(List α)) (ByteArray×Bool×(List α)))} {L:Nat} (hL:(xs.flatMap W++y).length<=L)
  (hF:∀ (k:Nat) (x:α) (z:List Int),xs[k]? = some x->(W x++z).length<=L->F ((xs.length-k:Nat):Int) (aV (W x++z)) false (xs.take k)=some (.go (((xs.length-(k+1):Nat):Int),aV z,false,xs.take (k+1)))) (hE:∀ r b o,F 0 r b o=some (.out (r,b,o))) :
  loop (fun s:Int×ByteArray×Bool×(List α)=>F s.1 s.2.1 s.2.2.1 s.2.2.2) ((xs.length:Int),aV (xs.flatMap W++y),false,([]:List α))=some (aV y,false,xs):=by
 refine ej (xs:=xs) (fun k=>(((xs.length-k:Nat):Int),aV ((xs.drop k).flatMap W++y),false,xs.take k)) (by simp) (fun k x hx=>?_) ?_
 ·dsimp only;obtain⟨O,e⟩:=cu.1 hx;have h1:(xs.flatMap W).length=((xs.take k).flatMap W).length+((xs.drop k).flatMap W).length:=by
   conv=>lhs; rw [<- qV k xs,yj,bk]
  rw [Hw O,e,wd] at h1;rw [Hw O,e,wd,fq,hF k x _ hx (by simp only [bk] at hL h1 ⊢; omega)]
 ·dsimp only;rw [xh,Hx,List.flatMap_nil,qU,fW];exact hE _ _ _
theorem Cz (O:k<n) (hn:n<=1000000):IntKind.i64.wrap (((n-k:Nat):Int)-1)=((n-(k+1):Nat):Int):=by rw [lU (by omega) (by omega)]; omega
theorem N8 {xs:List ah} (h:∀ k∈xs,ve k.k/\k.t.size<=1073741824) (hn:xs.length<=1000000):loop (fun s:Int×ByteArray×Bool×(List ah)=>eO s.1 s.2.1 s.2.2.1 s.2.2.2) ((xs.length:Int),aV (xs.flatMap lV++y),false,([]:List ah))=some (aV y,false,xs) :=
 Ii (L:=_) (W:=lV) (xs:=xs) (F:=eO) (cm _) (fun k x z hx _=>by
  have O:=bh hx;obtain⟨h1,h2⟩:=h x (aD hx);unfold eO;rw [decide_eq_true (by omega),cond_true,fv,cond_true,Ig h1 h2,ad,dk (by simp; omega)];simp only [gd,cond_true];rw [Cz O hn,bX hx]) (fun r b o=>rfl)
theorem Qr {xs:List bc} (h:∀ x∈xs,HN x) (hn:xs.length<=1000000):loop (fun s:Int×ByteArray×Bool×(List bc)=>eQ s.1 s.2.1 s.2.2.1 s.2.2.2) ((xs.length:Int),aV (xs.flatMap wo++y),false,([]:List bc))=some (aV y,false,xs) :=
 Ii (L:=_) (W:=wo) (xs:=xs) (F:=eQ) (cm _) (fun k x z hx _=>by
  have O:=bh hx;have hr:=h x (aD hx);have ht:=hr.text;have hv:=hr.value;unfold eQ wo nv;simp only [fq];rw [decide_eq_true (by omega),cond_true,fv,cond_true,Ig hr.w.key ht,ad];dsimp only;rw [su ⟨by omega,by omega⟩,ad];dsimp only;rw [FU,ad];dsimp only;rw [su hr.w.chg,ad,dk (by simp; omega)];simp only [gd,cond_true];rw [Cz O hn,bX hx]) (fun r b o=>rfl)
theorem Hj (xs:List ah):xs.length*16<=(xs.flatMap lV).length:=by
 induction xs with
 | nil=>simp
 | cons x xs ih=>rw [wd,bk,ip,dI]; omega
theorem JE (xs:List bc):xs.length*32<=(xs.flatMap wo).length:=by
 induction xs with
 | nil=>simp
 | cons x xs ih=>rw [wd,bk,ip,xF]; omega
theorem Hk (xs:List ay):xs.length*64<=(xs.flatMap lp).length:=by
 induction xs with
 | nil=>simp
 | cons x xs ih=>rw [wd,bk,ip,u0]; omega
theorem N9 {xs:List ay} (h:∀ x∈xs,Bj x) (hn:xs.length<=1000000) (hL:(xs.flatMap lp++y).length<=140000000000000):loop (fun s:Int×ByteArray×Bool×(List ay)=>eP s.1 s.2.1 s.2.2.1 s.2.2.2) ((xs.length:Int),aV (xs.flatMap lp++y),false,([]:List ay))=some (aV y,false,xs) :=
 Ii (W:=lp) (xs:=xs) (F:=eP) hL (fun k x z hx hz=>by
  have O:=bh hx;have hr:=h x (aD hx);have ht:=hr.text;have hv:=hr.value;have hf:=hr.w.few;have hm:=Hj x.v;unfold lp nv at hz;simp only [bk,bT,cP,dI] at hz;unfold eP lp nv;simp only [fq];rw [decide_eq_true (by omega),cond_true,fv,cond_true,Ig hr.w.key ht,ad];dsimp only;rw [su ⟨by omega,by omega⟩,ad];dsimp only;rw [FU,ad];dsimp only;rw [Dj (z:=16) (c:=16) rfl hf (by omega) (by simp only [bk]; omega) (by simp only [bk,bT]; omega),ad];dsimp only;rw [N8 (fun q hq=>⟨hr.w.reads q hq,hr.texts q hq⟩) hf,ad];unfold fN j8;dsimp only;rw [su hr.w.chg,ad];dsimp only;rw [su hr.w.ver,ad];dsimp only;rw [su hr.w.cost,ad];dsimp only;rw [su (show ve (if x.w=true then 1 else 0) by cases x.w <;> exact⟨by decide,by decide⟩),ad,dk (by simp; omega)];simp only [gd,cond_true];rw [Cz O hn,bX hx];have e:((if x.w=true then (1:Int) else 0)==1)=x.w:=by cases x.w <;> rfl
  rw [e]) (fun r b o=>rfl)
theorem G6 (h:o.length<=140000000000000):lQ (i8 o)=some (aV o,0):=by
 have hs:(aV o).size<=140000000000000:=by rw [cg]; omega
 obtain⟨d1,d2,d3⟩:=vn hs;have hz:=tG o;have h1:=Al o (o9 (BV (aV o)));have h2:=Am o (o9 (BV (aV o)));rw [<- wZ] at h1 h2;unfold lQ;rw [show IntKind.i64.wrap (((i8 o).size:Int)-16)=(o.length:Int) by rw [hz,lU (by omega) (by omega)]; omega];rw [decide_eq_false (by omega),cond_false,h1,ad,h2,ad,s5 hs,ad,xw d1 ⟨d2,d3⟩,ad,beq_self_eq_true,dJ,cond_false]
theorem C2 {b:ao} (h:yn b) (hv:ge b=some true):eY (i8 (gf b))=some (b,0):=by
 have hs:=h.small;have e1:=mD b;rw [e1] at hs;have m1:=JE b.i;have m2:=Hk b.s;have hw:=zT h hv;unfold eY;rw [G6 h.small,ad];dsimp only;rw [show ((0:Int) != 0)=false from rfl,cond_false];have e:aV (gf b)=aV (eI 11++(eI b.r++(eI b.i.length++(b.i.flatMap wo++(eI b.s.length++(b.s.flatMap lp++[])))))):=by unfold gf; rw [Ax]
 rw [show bx ⟨aV (gf b),false⟩=some (11,⟨aV (eI b.r++(eI b.i.length++(b.i.flatMap wo++(eI b.s.length++(b.s.flatMap lp++[]))))),false⟩) from by rw [e]; exact su ⟨by omega,by omega⟩,ad];dsimp only;rw [su h.rev,ad];dsimp only;rw [Dj (z:=32) (c:=32) rfl h.nin (by omega) (by simp only [bk]; omega) (by simp only [bk,bT,sg]; omega),ad];dsimp only;rw [Qr h.ins h.nin,ad];unfold fO;dsimp only;rw [Dj (z:=64) (c:=64) rfl h.nrec (by omega) (by simp only [bk]; omega) (by simp only [bk,sg]; omega),ad];dsimp only;rw [N9 h.recs h.nrec (by simp only [bk,sg]; omega),ad];unfold fL;dsimp only;rw [cond_false,show (ao.mk b.r b.i b.s)=b from rfl,hw,ad,beq_self_eq_true,dJ,cond_false]
end
section
open Go.Lib hiding intOf
variable {l:List Int} {r:aL}
theorem kw (m x i:Nat) (hx:x<256):hb (m*256+x) (i+1)=hb m i:=by
 unfold hb;rw [Be,Nat.mul_comm (256 ^ i) 256,<- Nat.div_div_eq_div_mul,show (m*256+x) / 256=m by omega]
theorem GH (m x:Nat) (hx:x<256):hb (m*256+x) 0=x:=by
 unfold hb;rw [DD,Bc]; omega
theorem NV (m x:Nat) (hx:x<256):O8 (m*256+x)=[hb m 6,hb m 5,hb m 4,hb m 3,hb m 2,hb m 1,hb m 0,x]:=by
 unfold O8;rw [kw m x 6 hx,kw m x 5 hx,kw m x 4 hx,kw m x 3 hx,kw m x 2 hx,kw m x 1 hx,kw m x 0 hx,GH m x hx]
theorem NW (hl:Bh l) (h8:l.length=8):∃ N:Nat,N<18446744073709551616/\l=eI N:=by
 match l,h8 with
 | [a,b,c,d,e,f,g,h],_ =>
  have bd:∀ x∈[a,b,c,d,e,f,g,h],∃ n:Nat,x=n/\n<256:=fun x hx=>by
   obtain⟨h1,h2⟩:=hl x hx;exact⟨x.toNat,by omega,by omega⟩
  obtain⟨a,rfl,a2⟩:=bd a (by simp);obtain⟨b,rfl,b2⟩:=bd b (by simp);obtain⟨c,rfl,c2⟩:=bd c (by simp);obtain⟨d,rfl,d2⟩:=bd d (by simp);obtain⟨e,rfl,e2⟩:=bd e (by simp);obtain⟨f,rfl,f2⟩:=bd f (by simp);obtain⟨g,rfl,g2⟩:=bd g (by simp);obtain⟨h,rfl,h2⟩:=bd h (by simp);refine⟨((((((((0*256+a)*256+b)*256+c)*256+d)*256+e)*256+f)*256+g)*256+h),by omega,?_⟩;unfold eI;rw [sC,NV _ _ h2,kw _ _ 5 g2,kw _ _ 4 g2,kw _ _ 3 g2,kw _ _ 2 g2,kw _ _ 1 g2,kw _ _ 0 g2,GH _ _ g2,
   kw _ _ 4 f2,kw _ _ 3 f2,kw _ _ 2 f2,kw _ _ 1 f2,kw _ _ 0 f2,GH _ _ f2,kw _ _ 3 e2,kw _ _ 2 e2,kw _ _ 1 e2,kw _ _ 0 e2,GH _ _ e2,
   kw _ _ 2 d2,kw _ _ 1 d2,kw _ _ 0 d2,GH _ _ d2,kw _ _ 1 c2,kw _ _ 0 c2,GH _ _ c2,kw _ _ 0 b2,GH _ _ b2,GH _ _ a2]
  rfl
theorem Qh {N:Nat} (h1:9223372036854775808<=N) (h2:N<18446744073709551616) {y:List Int} {bad:Bool}:be ⟨aV (eI N++y),bad⟩=some (0,⟨aV y,true⟩):=by
 unfold be;rw [uR (x:=eI N) 8 rfl,ad];dsimp only;rw [show ce (aV (eI (N:Int))).size=true from dk (by rw [cg,bT]; omega)];simp only [gd,cond_true];rw [show loop (fun s:Int×Int=>bZ (aV (eI (N:Int)),⟨aV y,bad⟩) s.1 s.2) (0,0)=some ((N:Int),aV y,bad) from
  mK (B:=fun s:Int×Int=>bZ (aV (eI (N:Int)),⟨aV y,bad⟩) s.1 s.2) (fun k=>(((N / 256 ^ (8-k):Nat):Int),(k:Int))) 8 (by
   have:N / 256 ^ 8=0:=Bb (by omega);show ((0:Int),(0:Int))=(((N / 256 ^ 8:Nat):Int),((0:Nat):Int));rw [this]; rfl) (fun k O=>by
   dsimp only;unfold bZ;dsimp only;rw [jl (mE _)];have hg:(eI (N:Int))[k]? = some ((hb N (7-k):Nat):Int):=by
    unfold eI;rw [sf,sC,yM N O]; rfl
   have hlt:N / 256 ^ (8-k)<72057594037927936:=by
    have h3:256 ^ 1<=256 ^ (8-k):=ux (by omega) (by omega);have h4:N / 256 ^ (8-k)<=N / 256 ^ 1:=Gb h3 (by omega);have h5:N / 256 ^ 1<72057594037927936:=by rw [Nat.pow_one]; omega
    omega
   rw [show ((eI (N:Int)).length:Int)=((8:Nat):Int) from rfl,dlt O,cond_true,bn,hg,ad,Mb hlt (zE _ _),cJ (by omega)];have:=zF N (7-k);rw [show 7-k+1=8-k by omega] at this;rw [<- this,show 8-(k+1)=7-k by omega]) (by
   dsimp only;unfold bZ;dsimp only;rw [jl (mE _),show ((eI (N:Int)).length:Int)=((8:Nat):Int) from rfl,bN,cond_false];rw [show 8-8=0 from rfl,DD,Bc]),ad]
 unfold dm;rw [FX,show N / 9223372036854775808=1 by omega];rfl
abbrev wq (r y:aL) (w:List Int):Prop:=y.f=false->r.f=false/\cy r.l=w++cy y.l
theorem wq.trans {y z:aL} {v w:List Int} (h1:wq r y v) (h2:wq y z w):wq r z (v++w):=fun h=>by
 obtain⟨a1,a2⟩:=h2 h;obtain⟨b1,b2⟩:=h1 a1;exact⟨b1,by rw [b2,a2,fq]⟩
theorem MM {n:Nat} (h:n<=r.l.size):r=⟨aV ((cy r.l).take n++(cy r.l).drop n),r.f⟩:=by rw [qV,lS]
theorem Ck (h:Bh l) (n:Nat):Bh (l.take n):=fun x hx=>h x (y4 hx)
theorem Gp (h:Bh l) (n:Nat):Bh (l.drop n):=fun x hx=>h x (A8 hx)
theorem P1 (n:Int):Ok (cq r n) fun y=>nN r y.2 n.toNat/\wq r y.2 (cy y.1)/\(y.2.f=false->(y.1.size:Int)=n):=by
 by_cases h1:n<0
 ·unfold cq;rw [decide_eq_true h1,cond_true];exact ae ⟨⟨bY _,fun _=>rfl,.inl rfl⟩,(fun h=>by cases h),fun h=>by cases h⟩
 ·by_cases h2:((r.l.size:Int))<n
  ·unfold cq;rw [decide_eq_false h1,cond_false,decide_eq_true h2,cond_true];exact ae ⟨⟨bY _,fun _=>rfl,.inl rfl⟩,(fun h=>by cases h),fun h=>by cases h⟩
  ·have hl:=cP r.l;have hs:=MM (r:=r) (n:=n.toNat) (by omega);have hb:=uF r.l;have hlt:((cy r.l).take n.toNat).length=n.toNat:=by rw [eS]; omega
   refine⟨_,by rw [hs]; exact uR n (by omega),⟨?_,fun h=>h,.inr ?_⟩,fun h=>⟨h,?_⟩,fun _=>?_⟩
   ·show (aV _).size<=_;rw [cg,mO]; omega
   ·show (aV _).size+_<=_;rw [cg,mO]; omega
   ·show _=cy (aV _)++cy (aV _);rw [jl (Ck hb _),jl (Gp hb _),qV]
   ·show ((aV _).size:Int)=n;rw [cg,hlt]; omega
theorem oE:Ok (be r) fun y=>nN r y.2 8/\wq r y.2 (eI y.1)/\(y.2.f=false->ve y.1):=by
 by_cases h8:r.l.size<8
 ·refine lT.mono fun y h=>⟨h,?_,?_⟩
  ·intro hb;rcases h.2.2 with h1 | h1
   ·rw [hb] at h1; cases h1
   ·omega
  ·intro hb;rcases h.2.2 with h1 | h1
   ·rw [hb] at h1; cases h1
   ·omega
 ·have hl:=cP r.l;have hs:=MM (r:=r) (n:=8) (by omega);have hb:=uF r.l;obtain⟨N,hN,e⟩:=NW (Ck hb 8) (by rw [eS]; omega);have hd:(aV ((cy r.l).drop 8)).size+8=r.l.size:=by rw [cg,mO]; omega
  rw [e] at hs;by_cases hN2:N<9223372036854775808
  ·refine⟨_,by rw [hs]; exact kU ⟨by omega,by omega⟩,⟨by show (aV _).size<=_; omega,fun h=>h,.inr (by show (aV _).size+8<=_; omega)⟩,fun h=>⟨h,?_⟩,fun _=>⟨by show (0:Int)<=(N:Int); omega,by show (N:Int)<_; omega⟩⟩;show _=eI (N:Int)++cy (aV _);rw [jl (Gp hb _),<- e,qV]
  ·refine⟨_,by rw [hs]; exact Qh (by omega) hN,⟨by show (aV _).size<=_; omega,fun _=>rfl,.inl rfl⟩,(fun h=>by cases h),fun h=>by cases h⟩
theorem Lw:Ok (cI r) fun y=>nN r y.2 8/\wq r y.2 (nv y.1):=by
 unfold cI;refine ai oE fun u ⟨h1,h2,h3⟩=>ai (P1 (r:=⟨u.2.l,u.2.f⟩) _) fun v ⟨g1,g2,g3⟩=>ae ⟨nN.trans h1 g1,fun hb=>?_⟩;have e:=g3 hb;have:=wq.trans h2 g2 hb;unfold nv;rw [e];exact this
theorem P3:Ok (cF r) fun y=>nN r y.2 8/\wq r y.2 (lV y.1)/\(y.2.f=false->ve y.1.k):=by
 unfold cF;refine ai oE fun u ⟨h1,h2,h3⟩=>ai (Lw (r:=⟨u.2.l,u.2.f⟩)) fun v ⟨g1,g2⟩=>ae ⟨nN.trans h1 g1,wq.trans h2 g2,fun hb=>h3 (g2 hb).1⟩
theorem Sd:Ok (dB r) fun y=>nN r y.2 8/\wq r y.2 (eI (if y.1=true then 1 else 0)):=by
 unfold dB dQ;refine ai oE fun u ⟨h1,h2,h3⟩=>ar (fun h=>ae ⟨⟨h1.1,fun _=>rfl,.inl rfl⟩,fun hb=>by cases hb⟩) (fun h=>?_);refine ae ⟨⟨h1.1,fun hb=>?_,?_⟩,fun hb=>?_⟩
 ·rw [h1.2.1 hb] at h; cases h
 ·rcases h1.2.2 with h4 | h4
  ·rw [h4] at h; cases h
  ·exact .inr h4
 ·have hle:¬ (1:Int)<u.1:=of_decide_eq_false hb;obtain⟨n1,n2⟩:=h3 h;obtain⟨e1,e2⟩:=h2 h;refine⟨e1,?_⟩;rw [e2];rcases (show u.1=0∨u.1=1 by omega) with e | e <;> rw [e] <;> rfl
theorem Im {α:Type} {W:α->List Int} {Q:α->Prop} {F:List α->Int->ByteArray->Bool->Option (Fl (List α×Int×ByteArray×Bool) (List α×ByteArray×Bool))} (hr:r.l.size<=100000000) {n0:Int} (hn:r.f=false->ve n0)
  (hF:∀ (o:List α) (n:Int) (rest:ByteArray) (bad:Bool),o.length<=1000000000->rest.size<=r.l.size->Ok (F o n rest bad) fun f=>match f with
   | .go s=>0<n/\s.2.1=IntKind.i64.wrap (n-1)/\bad=false/\nN ⟨rest,bad⟩ ⟨s.2.2.1,s.2.2.2⟩ 8/\∃ x,s.1=o++[x]/\wq ⟨rest,bad⟩ ⟨s.2.2.1,s.2.2.2⟩ (W x)/\(s.2.2.2=false->Q x)
   | .out s=>s.1=o/\s.2=(rest,bad)/\(n<=0∨bad=true)) :
  ∃ y,loop (fun s:List α×Int×ByteArray×Bool=>F s.1 s.2.1 s.2.2.1 s.2.2.2) (([]:List α),n0,r.l,r.f)=some y/\nN r ⟨y.2.1,y.2.2⟩ 0/\wq r ⟨y.2.1,y.2.2⟩ (y.1.flatMap W)/\(y.2.2=false->(y.1.length:Int)=n0/\∀ x∈y.1,Q x):=by
 have h:=bV (g:=fun y=>some y) (B:=fun s:List α×Int×ByteArray×Bool=>F s.1 s.2.1 s.2.2.1 s.2.2.2) (s:=(([]:List α),n0,r.l,r.f)) (R:=fun y=>nN r ⟨y.2.1,y.2.2⟩ 0/\wq r ⟨y.2.1,y.2.2⟩ (y.1.flatMap W)/\(y.2.2=false->(y.1.length:Int)=n0/\∀ x∈y.1,Q x))
  (fun (k:Nat) s=>s.1.length=k/\s.2.2.1.size<=r.l.size/\(r.f=true->s.2.2.2=true)/\(s.2.2.2=true/\k<=r.l.size+1∨s.2.2.1.size+k<=r.l.size)/\wq r ⟨s.2.2.1,s.2.2.2⟩ (s.1.flatMap W)/\(s.2.2.2=false->s.2.1=n0-k/\(k:Int)<=n0/\∀ x∈s.1,Q x)) (fun y=>nN r ⟨y.2.1,y.2.2⟩ 0/\wq r ⟨y.2.1,y.2.2⟩ (y.1.flatMap W)/\(y.2.2=false->(y.1.length:Int)=n0/\∀ x∈y.1,Q x)) (r.l.size+2) ⟨rfl,cm _,fun h=>h,.inr (by show r.l.size+0<=_; omega),fun h=>⟨h,by simp⟩,fun h=>⟨by show n0=n0-((0:Nat):Int); omega,by have:=(hn h).1; omega,fun x hx=>by cases hx⟩⟩ ?_ (fun y hy=>ae hy)
 ·obtain⟨y,e,hy⟩:=h;refine⟨y,?_,hy⟩;cases hl:loop (fun s:List α×Int×ByteArray×Bool=>F s.1 s.2.1 s.2.2.1 s.2.2.2) (([]:List α),n0,r.l,r.f) with
  | none=>rw [hl] at e; cases e
  | some z=>rw [hl] at e; exact e
 ·rintro k ⟨o,n,rest,bad⟩ O ⟨h1,h2,h3,h4,h5,h6⟩;dsimp only at h1 h2 h3 h4 h5 h6 ⊢;have ho:o.length<=1000000000:=by omega
  refine (hF o n rest bad ho h2).mono fun f hf=>?_;cases f with
  | go s =>
   obtain⟨p1,p2,p3,g,x,p4,p5,p6⟩:=hf;obtain⟨g3,g4,g5⟩:=g;dsimp only at g3 g4 g5;have h4:rest.size+k<=r.l.size:=by
    rcases h4 with⟨h4,_⟩ | h4
    ·rw [p3] at h4; cases h4
    ·exact h4
   obtain⟨q1,q2,q3⟩:=h6 p3;have hr0:=(h5 p3).1;have hn0:=hn hr0;obtain⟨m1,m2⟩:=hn0;refine⟨by omega,by rw [p4,bk]; simp; omega,by omega,fun hb=>g4 (h3 hb),?_,?_,fun hb=>⟨?_,?_,?_⟩⟩
   ·rcases g5 with g5 | g5
    ·exact .inl ⟨g5,by omega⟩
    ·exact .inr (by omega)
   ·have:=wq.trans h5 p5;rw [p4,yj];simpa using this
   ·rw [p2,lU (by omega) (by omega)]; omega
   ·omega
   ·intro z hz;rw [p4] at hz;rcases dw.1 hz with hz | hz
    ·exact q3 z hz
    ·rw [dF] at hz; subst hz; exact p6 hb
  | out s =>
   obtain⟨g1,g2,g3⟩:=hf;have e1:s.2.1=rest:=congrArg Prod.fst g2;have e2:s.2.2=bad:=congrArg Prod.snd g2;refine⟨⟨by show s.2.1.size<=_; rw [e1]; exact h2,fun hb=>by show s.2.2=true; rw [e2]; exact h3 hb,?_⟩,?_,fun hb=>?_⟩
   ·show s.2.2=true∨s.2.1.size+0<=_;rw [e1,e2];exact .inr (by omega)
   ·rw [g1,e1,e2]; exact h5
   ·rw [e2] at hb;obtain⟨q1,q2,q3⟩:=h6 hb;rw [g1];refine⟨?_,q3⟩;rcases g3 with g3 | g3
    ·omega
    ·rw [hb] at g3; cases g3
theorem Se (hr:r.l.size<=100000000):Ok (kd r) fun y=>nN r y.2 8/\wq r y.2 (eI y.1.length++y.1.flatMap lV)/\(y.2.f=false->∀ k∈y.1,ve k.k):=by
 unfold kd;refine ai oE fun u ⟨h1,h2,h3⟩=>?_;obtain⟨y,e,hy,hi,hq⟩:=Im (F:=fU) (r:=u.2) (W:=lV) (Q:=fun k=>ve k.k) (n0:=u.1) (by have:=h1.1; omega) h3 (fun o n rest bad ho hs=>by
  unfold fU;refine ar (fun hn=>?_) (fun hn=>ae ⟨rfl,rfl,.inl (by have:=of_decide_eq_false hn; omega)⟩);refine ar (fun hb=>?_) (fun hb=>ae ⟨rfl,rfl,.inr (by simpa using hb)⟩);exact ai P3 fun v ⟨g1,g2,g3⟩=>bC (dk (by simp; omega)) (ae ⟨of_decide_eq_true hn,rfl,by simpa using hb,g1,v.1,rfl,g2,g3⟩))
 refine aG e (ae ⟨nN.trans h1 hy,fun hb=>?_,fun hb=>(hq hb).2⟩);have:=wq.trans h2 hi hb;rw [(hq hb).1];exact this
theorem P2:Ok (dh r) fun y=>nN r y.2 8/\wq r y.2 (wo y.1)/\(y.2.f=false->QJ y.1):=by
 unfold dh;refine ai P3 fun u ⟨h1,h2,h3⟩=>ai (Lw (r:=⟨u.2.l,u.2.f⟩)) fun v ⟨g1,g2⟩=>ai (oE (r:=⟨v.2.l,v.2.f⟩)) fun w ⟨f1,f2,f3⟩=>ae ⟨nN.trans h1 (nN.trans g1 f1),wq.trans h2 (wq.trans g2 f2),fun hb=>⟨h3 (g2 (f2 hb).1).1,f3 hb⟩⟩
theorem NM (hr:r.l.size<=100000000):Ok (gM r) fun y=>nN r y.2 8/\wq r y.2 (eI y.1.length++y.1.flatMap wo)/\(y.2.f=false->∀ x∈y.1,QJ x):=by
 unfold gM;refine ai oE fun u ⟨h1,h2,h3⟩=>?_;obtain⟨y,e,hy,hi,hq⟩:=Im (F:=eH) (r:=u.2) (W:=wo) (Q:=QJ) (n0:=u.1) (by have:=h1.1; omega) h3 (fun o n rest bad ho hs=>by
  unfold eH;refine ar (fun hn=>?_) (fun hn=>ae ⟨rfl,rfl,.inl (by have:=of_decide_eq_false hn; omega)⟩);refine ar (fun hb=>?_) (fun hb=>ae ⟨rfl,rfl,.inr (by simpa using hb)⟩);exact ai P2 fun v ⟨g1,g2,g3⟩=>bC (dk (by simp; omega)) (ae ⟨of_decide_eq_true hn,rfl,by simpa using hb,g1,v.1,rfl,g2,g3⟩))
 refine aG e (ae ⟨nN.trans h1 hy,fun hb=>?_,fun hb=>(hq hb).2⟩);have:=wq.trans h2 hi hb;rw [(hq hb).1];exact this
theorem NP (hr:r.l.size<=100000000):Ok (cV r) fun y=>nN r y.2 8/\wq r y.2 (lp y.1):=by
 unfold cV;refine ai P3 fun u ⟨h1,h2,h3⟩=>ai (Lw (r:=⟨u.2.l,u.2.f⟩)) fun v ⟨g1,g2⟩=>?_;have h12:=nN.trans h1 g1;refine ai (Se (r:=⟨v.2.l,v.2.f⟩) (by have:=h12.1; show v.2.l.size<=_; omega)) fun w ⟨k1,k2,k3⟩=>?_;have h13:=nN.trans h12 k1;refine ai (oE (r:=⟨w.2.l,w.2.f⟩)) fun a ⟨a1,a2,a3⟩=>ai (oE (r:=⟨a.2.l,a.2.f⟩)) fun b ⟨b1,b2,b3⟩=>ai (oE (r:=⟨b.2.l,b.2.f⟩)) fun c ⟨c1,c2,c3⟩=>ai (Sd (r:=⟨c.2.l,c.2.f⟩)) fun d ⟨d1,d2⟩=>ae ⟨nN.trans h13 (nN.trans a1 (nN.trans b1 (nN.trans c1 d1))),?_⟩;have:=wq.trans h2 (wq.trans g2 (wq.trans k2 (wq.trans a2 (wq.trans b2 (wq.trans c2 d2)))));unfold lp;simpa only [fq] using this
theorem Lu (hr:r.l.size<=100000000):Ok (fV r) fun y=>nN r y.2 8/\wq r y.2 (eI y.1.length++y.1.flatMap lp):=by
 unfold fV;refine ai oE fun u ⟨h1,h2,h3⟩=>?_;obtain⟨y,e,hy,hi,hq⟩:=Im (F:=dV) (r:=u.2) (W:=lp) (Q:=fun _=>True) (n0:=u.1) (by have:=h1.1; omega) h3 (fun o n rest bad ho hs=>by
  unfold dV;refine ar (fun hn=>?_) (fun hn=>ae ⟨rfl,rfl,.inl (by have:=of_decide_eq_false hn; omega)⟩);refine ar (fun hb=>?_) (fun hb=>ae ⟨rfl,rfl,.inr (by simpa using hb)⟩);exact ai (NP (r:=⟨rest,bad⟩) (by have:=h1.1; show rest.size<=_; omega)) fun v ⟨g1,g2⟩=>bC (dk (by simp; omega)) (ae ⟨of_decide_eq_true hn,rfl,by simpa using hb,g1,v.1,rfl,g2,fun _=>trivial⟩))
 refine aG e (ae ⟨nN.trans h1 hy,fun hb=>?_⟩);have:=wq.trans h2 hi hb;rw [(hq hb).1];exact this
theorem Ic {b:ao} (h:(gf b).length<=1000000):zq b:=by
 have e:=mD b;have m1:=JE b.i;have m2:=Hk b.s;refine⟨by omega,by omega,fun r hr=>?_,fun x hx=>?_⟩
 ·have h1:=CW (W:=lp) hr;rw [u0] at h1;have m3:=Hj r.v;refine⟨by omega,by omega,fun k O=>?_⟩;have h2:=CW (W:=lV) O;rw [dI] at h2;omega
 ·have h1:=CW (W:=wo) hx;rw [xF] at h1;omega
theorem Kp {o:List Int} (hb:Bh o) (ho:o.length<=1000000):Ok (bW (i8 o)) fun y=>(y.2=5/\y.1=⟨0,[],[]⟩)∨(y.2=0/\gf y.1=o/\eu y.1=some true):=by
 have hso:(aV o).size=o.length:=cg o;unfold bW;refine aG (zR (by omega)) ?_;dsimp only;rw [show ((0:Int) != 0)=false from rfl,cond_false];refine ai (oE (r:=⟨aV o,false⟩)) fun u1 ⟨a1,a2,a3⟩=>ai (oE (r:=⟨u1.2.l,u1.2.f⟩)) fun u2 ⟨b1,b2,b3⟩=>?_;have hs1:u1.2.l.size<=o.length:=by have:=a1.1; dsimp only at this; omega
 have hs2:u2.2.l.size<=o.length:=by have:=b1.1; dsimp only at this; omega
 refine ai (NM (r:=⟨u2.2.l,u2.2.f⟩) (by show u2.2.l.size<=_; omega)) fun u3 ⟨c1,c2,c3⟩=>?_;have hs3:u3.2.l.size<=o.length:=by have:=c1.1; dsimp only at this; omega
 refine ai (Lu (r:=⟨u3.2.l,u3.2.f⟩) (by show u3.2.l.size<=_; omega)) fun u4 ⟨d1,d2⟩=>?_;have hall:=wq.trans a2 (wq.trans b2 (wq.trans c2 d2));refine ar (fun _=>ae (.inl ⟨rfl,rfl⟩)) (fun h11=>?_);have h11:u1.1=11:=by simpa using h11
 refine ai (Q:=fun u:Bool×aL=>u.1=true->u4.2.f=false/\u4.2.l.toList=[]) ?_ fun u5 hu=>ar (fun _=>ae (.inl ⟨rfl,rfl⟩)) (fun h5=>?_)
 ·unfold fc dP;dsimp only;refine ar (fun h=>ae fun he=>⟨by simpa using h,?_⟩) (fun h=>ae fun he=>by cases he);have he:(u4.2.l.toList==cr.toList)=true:=he;simpa using he
 ·obtain⟨g1,g2⟩:=hu (by simpa using h5);obtain⟨_,g3⟩:=hall g1;have g4:cy u4.2.l=[]:=by unfold cy; rw [g2]; rfl
  dsimp only at g3;rw [jl hb,g4,Ax,h11] at g3;have ew:gf (ao.mk u2.1 u3.1 u4.1)=o:=by
   rw [g3]; unfold gf; simp only [fq]
  have hv:=(A6 (Ic (b:=ao.mk u2.1 u3.1 u4.1) (by rw [ew]; exact ho))).1;refine aG hv (ar (fun _=>ae (.inl ⟨rfl,rfl⟩)) (fun h6=>ae (.inr ⟨rfl,ew,?_⟩)));rw [hv];cases hvb:Na (ao.mk u2.1 u3.1 u4.1) with
  | true=>rfl
  | false=>rw [hvb] at h6; cases h6
end
section
open Go.Lib hiding intOf
variable {b:ao} {r:aM}
theorem Jv {s:ByteArray} {n:Nat} (h:n<=s.size):ln s 0 (n:Int)=some (aV ((cy s).take n))/\ln s (n:Int) (s.size:Int)=some (aV ((cy s).drop n)):=by
 have hl:=cP s;have e:s=aV ((cy s).take n++(cy s).drop n):=by rw [qV,lS]
 have h1:=Al ((cy s).take n) ((cy s).drop n);have h2:=Am ((cy s).take n) ((cy s).drop n);rw [<- e,eS,y8 (by omega)] at h1 h2;exact⟨h1,h2⟩
theorem Qx {s:ByteArray} (h:8<=s.size):Ok (o2 s) fun _=>True:=by
 have hl:=Dw s;unfold o2;refine bV (fun (k:Nat) (t:Int×Int)=>t.2=k) (fun _=>True) 8 rfl ?_ (fun r _=>by unfold rj; exact ae trivial);rintro k ⟨n,i⟩ O rfl;dsimp only;unfold iX;refine ar (fun h=>?_) (fun _=>ae trivial);have h:k<8:=by have:=of_decide_eq_true h; omega
 exact aG (bq (xs:=s.toList) (k:=k) (by omega)) (ae ⟨h,cJ (by omega)⟩)
theorem wb:Ok (bx r) fun y=>y.2.S.size<=r.S.size:=by
 unfold bx;refine ar (fun _=>ae (cm _)) (fun _=>ar (fun _=>ae (cm _)) (fun h=>?_));have h8:8<=r.S.size:=by have:=of_decide_eq_false h; omega
 have hl:=cP r.S;obtain⟨e1,e2⟩:=Jv (n:=8) h8;refine aG e1 (ai (Qx (by rw [cg,eS]; omega)) fun u _=>aG e2 (ae ?_));show (aV _).size<=_;rw [cg,mO]; omega
theorem FW {z:Int} {c:Nat} (hz:z=c) (hc:0<c) (hr:r.S.size<=100000000):Ok (dE r z) fun y=>0<=y.1/\y.1<=r.S.size/\y.2.S.size<=r.S.size:=by
 subst hz;unfold dE;refine ai wb fun u hu=>ar (fun _=>ae ⟨sB _,by show (0:Int)<=_; omega,hu⟩) (fun h0=>bC (bne_iff_ne.2 (by omega)) ?_);have hd:u.2.S.size / c<=u.2.S.size:=Nat.div_le_self _ _;rw [show Int.tdiv (u.2.S.size:Int) (c:Int)=((u.2.S.size / c:Nat):Int) from rfl];generalize u.2.S.size / c=q at hd;rw [lU (by omega) (by omega)];refine ar (fun _=>ae ⟨sB _,by show (0:Int)<=_; omega,hu⟩) (fun h1=>ae ⟨?_,?_,hu⟩)
 ·have:=of_decide_eq_false h0; show (0:Int)<=u.1; omega
 ·have:=of_decide_eq_false h1; show u.1<=_; omega
theorem Ik {n:Int}:Ok (dS r n) fun y=>y.2.S.size<=r.S.size/\y.1.size<=r.S.size:=by
 unfold dS;refine ar (fun _=>ae ⟨cm _,bY _⟩) (fun _=>ar (fun _=>ae ⟨cm _,bY _⟩) (fun h0=>ar (fun _=>ae ⟨cm _,bY _⟩) (fun h1=>?_)));have h0:=of_decide_eq_false h0;have h1:=of_decide_eq_false h1;obtain⟨N,rfl⟩:∃ N:Nat,n=N:=⟨n.toNat,by omega⟩;have hl:=cP r.S;obtain⟨e1,e2⟩:=Jv (s:=r.S) (n:=N) (by omega);refine aG e1 (aG e2 (ae ⟨?_,?_⟩))
 ·show (aV _).size<=_;rw [cg,mO]; omega
 ·show (aV _).size<=_;rw [cg,eS]; omega
theorem MA:Ok (eG r) fun y=>y.2.S.size<=r.S.size/\y.1.t.size<=r.S.size:=by
 unfold eG;refine ai wb fun u hu=>ai (wb (r:=⟨u.2.S,u.2.f⟩)) fun v hv=>ai (Ik (r:=⟨v.2.S,v.2.f⟩)) fun w ⟨h1,h2⟩=>ae ⟨?_,?_⟩
 ·dsimp only at hv h1 ⊢; omega
 ·dsimp only at hv h2 ⊢; omega
theorem Ij {α:Type} {Q:α->Prop} {F:Int->ByteArray->Bool->List α->Option (Fl (Int×ByteArray×Bool×List α) (ByteArray×Bool×List α))} {L:Nat} {n0:Int} (hn:0<=n0) (hN:n0<=100000000) {g0:ByteArray} {b0:Bool} (hg:g0.size<=L)
  (hF:∀ (n:Int) (g:ByteArray) (b:Bool) (o:List α),o.length<=1000000000->g.size<=L->Ok (F n g b o) fun f=>match f with
   | .go s=>0<n/\s.1=IntKind.i64.wrap (n-1)/\s.2.1.size<=L/\∃ x,s.2.2.2=o++[x]/\Q x
   | .out s=>s.1=g/\s.2.2=o) :
  Ok (loop (fun s:Int×ByteArray×Bool×List α=>F s.1 s.2.1 s.2.2.1 s.2.2.2) (n0,g0,b0,([]:List α))) fun y=>y.1.size<=L/\(y.2.2.length:Int)<=n0/\∀ x∈y.2.2,Q x:=by
 have h:=bV (g:=fun y=>some y) (B:=fun s:Int×ByteArray×Bool×List α=>F s.1 s.2.1 s.2.2.1 s.2.2.2) (s:=(n0,g0,b0,([]:List α))) (R:=fun y=>y.1.size<=L/\(y.2.2.length:Int)<=n0/\∀ x∈y.2.2,Q x)
  (fun (k:Nat) s=>s.1=n0-k/\(k:Int)<=n0/\s.2.1.size<=L/\s.2.2.2.length=k/\∀ x∈s.2.2.2,Q x) (fun y=>y.1.size<=L/\(y.2.2.length:Int)<=n0/\∀ x∈y.2.2,Q x) (n0.toNat+1) ⟨by show n0=n0-((0:Nat):Int); omega,by omega,hg,rfl,fun x hx=>by cases hx⟩ ?_ (fun y hy=>ae hy)
 ·obtain⟨y,e,hy⟩:=h;refine⟨y,?_,hy⟩;cases hl:loop (fun s:Int×ByteArray×Bool×List α=>F s.1 s.2.1 s.2.2.1 s.2.2.2) (n0,g0,b0,([]:List α)) with
  | none=>rw [hl] at e; cases e
  | some z=>rw [hl] at e; exact e
 ·rintro k ⟨n,g,b,o⟩ O ⟨h1,h2,h3,h4,h5⟩;dsimp only at h1 h2 h3 h4 h5 ⊢;refine (hF n g b o (by omega) h3).mono fun f hf=>?_;cases f with
  | go s =>
   obtain⟨p1,p2,p3,x,p4,p5⟩:=hf;refine⟨by omega,by rw [p2,lU (by omega) (by omega)]; omega,by omega,p3,by rw [p4,bk]; simp; omega,fun z hz=>?_⟩;rw [p4] at hz;rcases dw.1 hz with hz | hz
   ·exact h5 z hz
   ·rw [dF] at hz; subst hz; exact p5
  | out s =>
   obtain⟨q1,q2⟩:=hf;exact⟨by rw [q1]; exact h3,by rw [q2]; omega,by rw [q2]; exact h5⟩
structure Ue (L:Nat) (x:bc):Prop where
 text:x.d.t.size<=L
 value:x.u.size<=L
structure QV (L:Nat) (r:ay):Prop where
 text:r.d.t.size<=L
 value:r.u.size<=L
 few:r.v.length<=L
 texts:∀ k∈r.v,k.t.size<=L
structure B8 (L:Nat) (b:ao):Prop where
 nin:b.i.length<=L
 nrec:b.s.length<=L
 ins:∀ x∈b.i,Ue L x
 recs:∀ r∈b.s,QV L r
theorem B8.raw {L:Nat} (hL:L<=1000000) (h:B8 L b):zq b :=
 ⟨by have:=h.nin; omega,by have:=h.nrec; omega,fun r hr=>⟨by have:=(h.recs r hr).few; omega,by have:=(h.recs r hr).text; omega,fun k O=>by have:=(h.recs r hr).texts k O; omega⟩,fun x hx=>by have:=(h.ins x hx).text; omega⟩
theorem B8.small (h:B8 150000 b) (hv:II b):(gf b).length<=140000000000000:=by
 have h1:=hv.nin;have h2:=hv.nrec;have h4:=jX (W:=wo) (c:=300032) b.i fun x hx=>by
  have:=(h.ins x hx).text;have:=(h.ins x hx).value;rw [xF]; omega
 have h5:=jX (W:=lp) (c:=22503000064) b.s fun r hr=>by
  have:=(h.recs r hr).text;have:=(h.recs r hr).value;have hf:=(h.recs r hr).few;have h6:=jX (W:=lV) (c:=150016) r.v fun k O=>by
   have:=(h.recs r hr).texts k O;rw [dI]; omega
  rw [u0]; omega
 rw [mD]; omega
theorem EM (h:B8 150000 b):(Na b=false/\fK b=some ⟨#[]⟩)∨(Na b=true/\yn b/\fK b=some (i8 (gf b))):=by
 have hr:=h.raw (by omega);obtain⟨_,v2⟩:=A6 hr;cases hv:Na b with
 | false =>
  rw [hv] at v2;refine .inl ⟨rfl,?_⟩;unfold fK;rw [v2,ad,fv,cond_true]
 | true =>
  rw [hv] at v2;have hb:=MY hr hv;have hd:=hb.rd (h.small hb);exact .inr ⟨rfl,hd,zT hd v2⟩
theorem Ih {o:List Int} (ho:o.length<=150000):Ok (eY (i8 o)) fun y=>(y.2=5/\y.1=⟨0,[],[]⟩)∨(y.2=0/\B8 150000 y.1/\fK y.1=some (i8 o)):=by
 have hso:(aV o).size=o.length:=cg o;unfold eY;refine aG (G6 (by omega)) ?_;dsimp only;rw [show ((0:Int) != 0)=false from rfl,cond_false];refine ai (wb (r:=⟨aV o,false⟩)) fun u1 h1=>ai (wb (r:=⟨u1.2.S,u1.2.f⟩)) fun u2 h2=>?_;dsimp only at h1 h2;refine ai (FW (r:=⟨u2.2.S,u2.2.f⟩) (z:=32) (c:=32) rfl (by omega) (by show u2.2.S.size<=_; omega)) fun u3 ⟨c1,c2,c3⟩=>?_;dsimp only at c2 c3;refine ai (Ij (Q:=Ue 150000) (F:=eQ) (L:=150000) (n0:=u3.1) c1 (by omega) (by omega) fun n g b l hl hg=>?_) fun r1 ⟨r2,r3,r4⟩=>?_
 ·unfold eQ;refine ar (fun hn=>?_) (fun _=>ae ⟨rfl,rfl⟩);refine ar (fun _=>?_) (fun _=>ae ⟨rfl,rfl⟩);refine ai (MA (r:=⟨g,b⟩)) fun k ⟨k1,k2⟩=>ai (wb (r:=⟨k.2.S,k.2.f⟩)) fun n1 k3=>ai (Ik (r:=⟨n1.2.S,n1.2.f⟩)) fun t ⟨t1,t2⟩=>ai (wb (r:=⟨t.2.S,t.2.f⟩)) fun n2 k4=>bC (dk (by simp; omega)) (ae ⟨of_decide_eq_true hn,rfl,?_,_,rfl,?_,?_⟩)
  ·dsimp only at k1 k3 t1 k4 ⊢; omega
  ·dsimp only at k2 ⊢; omega
  ·dsimp only at k1 k3 t2 ⊢; omega
 unfold fO;refine ai (FW (r:=⟨r1.1,r1.2.1⟩) (z:=64) (c:=64) rfl (by omega) (by show r1.1.size<=_; omega)) fun u4 ⟨d1,d2,d3⟩=>?_;dsimp only at d2 d3;refine ai (Ij (Q:=QV 150000) (F:=eP) (L:=150000) (n0:=u4.1) d1 (by omega) (by omega) fun n g b l hl hg=>?_) fun q1 ⟨q2,q3,q4⟩=>?_
 ·unfold eP;refine ar (fun hn=>?_) (fun _=>ae ⟨rfl,rfl⟩);refine ar (fun _=>?_) (fun _=>ae ⟨rfl,rfl⟩);refine ai (MA (r:=⟨g,b⟩)) fun k ⟨k1,k2⟩=>ai (wb (r:=⟨k.2.S,k.2.f⟩)) fun n1 k3=>ai (Ik (r:=⟨n1.2.S,n1.2.f⟩)) fun t ⟨t1,t2⟩=>?_;dsimp only at k1 k2 k3 t1 t2;refine ai (FW (r:=⟨t.2.S,t.2.f⟩) (z:=16) (c:=16) rfl (by omega) (by show t.2.S.size<=_; omega)) fun c ⟨m1,m2,m3⟩=>?_;dsimp only at m2 m3;refine ai (Ij (Q:=fun k:ah=>k.t.size<=150000) (F:=eO) (L:=150000) (n0:=c.1) m1 (by omega) (by omega) fun n g b l hl hg=>?_) fun w ⟨w2,w3,w4⟩=>?_
  ·unfold eO;refine ar (fun hn=>?_) (fun _=>ae ⟨rfl,rfl⟩);refine ar (fun _=>?_) (fun _=>ae ⟨rfl,rfl⟩);refine ai (MA (r:=⟨g,b⟩)) fun k ⟨k1,k2⟩=>bC (dk (by simp; omega)) (ae ⟨of_decide_eq_true hn,rfl,?_,_,rfl,?_⟩)
   ·dsimp only at k1 ⊢; omega
   ·dsimp only at k2 ⊢; omega
  unfold fN j8;refine ai (wb (r:=⟨w.1,w.2.1⟩)) fun a1 e1=>ai (wb (r:=⟨a1.2.S,a1.2.f⟩)) fun a2 e2=>ai (wb (r:=⟨a2.2.S,a2.2.f⟩)) fun a3 e3=>ai (wb (r:=⟨a3.2.S,a3.2.f⟩)) fun a4 e4=>bC (dk (by simp; omega)) (ae ⟨of_decide_eq_true hn,rfl,?_,_,rfl,?_,?_,?_,w4⟩)
  ·dsimp only at e1 e2 e3 e4 ⊢; omega
  ·show k.1.t.size<=_; omega
  ·show t.1.size<=_; omega
  ·show w.2.2.length<=_; omega
 unfold fL;have hQ:B8 150000 (ao.mk u2.1 r1.2.2 q1.2.2):=⟨by show r1.2.2.length<=_; omega,by show q1.2.2.length<=_; omega,r4,q4⟩;refine ar (fun _=>ae (.inl ⟨rfl,rfl⟩)) (fun _=>?_);obtain⟨y,hy⟩:∃ y,fK (ao.mk u2.1 r1.2.2 q1.2.2)=some y:=by
  rcases EM hQ with⟨_,h⟩|⟨_,_,h⟩
  ·exact⟨_,h⟩
  ·exact⟨_,h⟩
 refine aG hy (ar (fun _=>ae (.inl ⟨rfl,rfl⟩)) (fun h=>ae (.inr ⟨rfl,hQ,?_⟩)));rw [hy];have h:(y.toList==(i8 o).toList)=true:=by simpa using h
 rw [HV] at h;rw [of_decide_eq_true h]
theorem Su {z:ByteArray} (hz:z.size<=100000000):(fm z=some (⟨⟨#[]⟩,false⟩,8)/\lQ z=some (⟨#[]⟩,8))∨(fm z=some (⟨⟨#[]⟩,false⟩,46)/\lQ z=some (⟨#[]⟩,46))∨∃ o,Bh o/\o.length+16=z.size/\z=i8 o:=by
 by_cases h16:z.size<16
 ·refine .inl ⟨?_,?_⟩
  ·unfold fm;rw [show IntKind.i64.wrap ((z.size:Int)-16)=(z.size:Int)-16 from lU (by omega) (by omega),decide_eq_true (by omega),cond_true]
  ·unfold lQ;rw [decide_eq_true (by omega),cond_true]
 ·have hl:=cP z;have hb:=uF z;obtain⟨o,ho⟩:∃ o,o=(cy z).take (z.size-16):=⟨_,rfl⟩;obtain⟨D,hD⟩:∃ D,D=(cy z).drop (z.size-16):=⟨_,rfl⟩;have e:z=aV (o++D):=by rw [ho,hD,qV,lS]
  have hlo:o.length=z.size-16:=by rw [ho,eS]; omega
  have hs:(aV o).size<=140000000000000:=by rw [cg]; omega
  obtain⟨d1,d2,d3⟩:=vn hs;have e1:ln z 0 (o.length:Int)=some (aV o):=by rw [e]; exact Al o D
  have e2:ln z (o.length:Int) (z.size:Int)=some (aV D):=by
   have:=Am o D;rw [<- e] at this; exact this
  have ew:IntKind.i64.wrap ((z.size:Int)-16)=(o.length:Int):=by rw [lU (by omega) (by omega)]; omega
  by_cases hd:aV (o9 (BV (aV o)))=aV D
  ·refine .inr (.inr ⟨o,by rw [ho]; exact Ck hb _,by omega,?_⟩);unfold i8;rw [hd,eZ]; exact e
  ·have hne:((aV (o9 (BV (aV o)))).toList==(aV D).toList)=false:=by rw [HV,decide_eq_false hd]
   refine .inr (.inl ⟨?_,?_⟩)
   ·unfold fm;rw [ew,decide_eq_false (by omega),cond_false,e1,ad,e2,ad,Fs hs,ad,uJ d1 ⟨d2,d3⟩,ad,hne,fv,cond_true]
   ·unfold lQ;rw [ew,decide_eq_false (by omega),cond_false,e1,ad,e2,ad,s5 hs,ad,xw d1 ⟨d2,d3⟩,ad,hne,fv,cond_true]
def HJ (z:ByteArray):Prop:=∃ b e,bW z=some (b,e)/\eY z=some (b,e)/\zq b
theorem Qe:zq ⟨0,[],[]⟩:=⟨by simp,by simp,(fun r hr=>by cases hr),(fun x hx=>by cases hx)⟩
theorem qq {z:ByteArray} (hz:z.size<=150000):HJ z:=by
 rcases Su (z:=z) (by omega) with⟨h1,h2⟩|⟨h1,h2⟩|⟨o,hb,hlo,rfl⟩
 ·refine⟨⟨0,[],[]⟩,8,?_,?_,Qe⟩
  ·unfold bW; rw [h1]; rfl
  ·unfold eY; rw [h2]; rfl
 ·refine⟨⟨0,[],[]⟩,46,?_,?_,Qe⟩
  ·unfold bW; rw [h1]; rfl
  ·unfold eY; rw [h2]; rfl
 ·obtain⟨⟨b,e⟩,h1,h2⟩:=Kp hb (by omega);obtain⟨⟨v,f⟩,g1,g2⟩:=Ih (o:=o) (by omega);dsimp only at h2 g2;rcases h2 with⟨rfl,rfl⟩|⟨rfl,hw,hv⟩
  ·rcases g2 with⟨rfl,rfl⟩|⟨rfl,hQ,hw⟩
   ·exact⟨_,_,h1,g1,Qe⟩
   ·exfalso;rcases EM hQ with⟨_,h⟩|⟨hv,hd,h⟩
    ·rw [h] at hw;have:=congrArg ByteArray.size (cC hw);rw [tG] at this;have h0:(ByteArray.mk #[]).size=0:=rfl;omega
    ·rw [h] at hw;have hv2:=(A6 (hQ.raw (by omega))).1;rw [hv] at hv2;have:=qr hd hv2;rw [cC hw,h1] at this;have h50:(5:Int)=0:=congrArg Prod.snd (cC this);omega
  ·have hsm:(gf b).length<=1000000:=by rw [hw]; omega
   have hr:=Ic hsm;obtain⟨v1,v2⟩:=A6 hr;rw [v1] at hv;have hvt:=cC hv;rw [hvt] at v2;have hd:=(MY hr hvt).rd (by omega);have:=C2 hd v2;rw [hw] at this;exact⟨_,_,h1,this,hr⟩
end
section
open Go.Lib hiding intOf
theorem FZ {s:ByteArray} {a b:Int} (h0:0<=a) (h1:a<=b) (h2:b<=s.size):Ok (ln s a b) fun y=>(y.size:Int)=b-a:=by
 obtain⟨A,rfl⟩:∃ A:Nat,a=A:=⟨a.toNat,by omega⟩;obtain⟨B,rfl⟩:∃ B:Nat,b=B:=⟨b.toNat,by omega⟩;have hl:=cP s;have:=me (l:=cy s) (a:=A) (b:=B) (by omega) (by omega);rw [lS] at this;refine⟨_,this,?_⟩;show ((aV _).size:Int)=_;rw [cg,mO,eS]; omega
theorem Nn {n:Nat} (h:n<=140737488355328):Nat.ble n 140737488355328=true:=sw h
theorem Ap {s:ByteArray} (h:s.size<=100000000):Ok (iM s) fun y=>y.size=s.size+16:=by
 have hs:s.size<=140000000000000:=by omega
 obtain⟨d1,d2,d3⟩:=vn hs;have h16:(aV (o9 (BV s))).size=16:=by rw [cg]; rfl
 unfold iM;refine aG (s5 hs) (aG (xw d1 ⟨d2,d3⟩) (bC (Nn (by omega)) (ae ?_)));rw [kz,h16]
theorem L6 (x:Int):(aV [x]).size=1:=by rw [cg]; rfl
theorem Jz {s:ByteArray} {what at_ by_:Int} (h:s.size<=1000000):Ok (nC s what at_ by_) fun y=>y.size<=s.size+40:=by
 have h1:=L6 (IntKind.u8.wrap by_);unfold nC;refine ar (fun _=>ae (by omega)) (fun h17=>?_);have h17:=of_decide_eq_false h17;have hw:IntKind.i64.wrap ((s.size:Int)-16)=(s.size:Int)-16:=lU (by omega) (by omega);rw [hw];refine ai (FZ (s:=s) (sB 0) (by omega) (by omega)) fun body hb=>?_;have hb:(body.size:Int)=s.size-16:=by omega
 refine ai (H7 at_ (m:=(body.size:Int)) (by omega) (by omega)) fun i ⟨i0,i1⟩=>ai (H7 what (m:=7) (by omega) (by omega)) fun m _=>?_;have hi:IntKind.i64.wrap (i+1)=i+1:=lU (by omega) (by omega);rw [hi];refine ar (fun _=>?_) (fun _=>ar (fun _=>?_) (fun _=>ar (fun _=>?_) (fun _=>ar (fun _=>?_) (fun _=>ar (fun _=>?_) (fun _=>ar (fun _=>?_) (fun _=>ae (by omega)))))))
 ·refine ai (FZ (s:=s) (sB 0) i0 (by omega)) fun a ha=>ai (FZ (s:=s) (a:=i+1) (b:=s.size) (by omega) (by omega) (by omega)) fun c hc=>bC (Nn (by omega)) (bC (Nn (by rw [kz]; omega)) (ae ?_));rw [kz,kz]; omega
 ·refine ai (FZ (s:=body) (sB 0) i0 (by omega)) fun a ha=>ai (FZ (s:=body) (a:=i+1) (b:=body.size) (by omega) (by omega) (by omega)) fun c hc=>bC (Nn (by omega)) (bC (Nn (by rw [kz]; omega)) ?_);have hz:((a++aV [IntKind.u8.wrap by_])++c).size<=1000040:=by rw [kz,kz]; omega
  refine ai (Ap (by omega)) fun y hy=>ae ?_;rw [hy,kz,kz]; omega
 ·refine ai (FZ (s:=body) (sB 0) i0 (by omega)) fun a ha=>ai (Ap (by omega)) fun y hy=>ae (by omega)
 ·have hz:(body++aV [IntKind.u8.wrap by_]).size=body.size+1:=by rw [kz]; omega
  exact bC (Nn (by omega)) (ai (Ap (by omega)) fun y hy=>ae (by omega))
 ·exact ai (FZ (s:=s) (sB 0) i0 (by omega)) fun a ha=>ae (by omega)
 ·obtain⟨n,rfl⟩:∃ n:Nat,i=n:=⟨i.toNat,by omega⟩;have e1:Int.tdiv ((n:Nat):Int) 8=((n / 8:Nat):Int):=rfl;have e2:IntKind.i64.wrap ((n / 8:Nat):Int)=((n / 8:Nat):Int):=lU (by omega) (by omega);have e3:IntKind.i64.wrap (((n / 8:Nat):Int)*8)=((n / 8:Nat):Int)*8:=lU (by omega) (by omega);have e4:IntKind.i64.wrap (((n / 8:Nat):Int)*8+8)=((n / 8:Nat):Int)*8+8:=lU (by omega) (by omega);have h0:(ByteArray.mk #[0,0,0,0,0,0,0]).size=7:=rfl;rw [e1,e2,e3,e4];refine ai (FZ (s:=body) (sB 0) (by omega) (by omega)) fun a ha=>bC (Nn (by omega)) (ai (FZ (s:=body) (b:=body.size) (by omega) (by omega) (by omega)) fun c hc=>ai (H7 by_ (m:=4) (by omega) (by omega)) fun q _=>?_);have h1:=L6 (IntKind.u8.wrap q);have z1:(a++ByteArray.mk #[0,0,0,0,0,0,0]).size=a.size+7:=by rw [kz]; omega
  have z2:((a++ByteArray.mk #[0,0,0,0,0,0,0])++aV [IntKind.u8.wrap q]).size=a.size+8:=by rw [kz]; omega
  have z3:(((a++ByteArray.mk #[0,0,0,0,0,0,0])++aV [IntKind.u8.wrap q])++c).size=a.size+8+c.size:=by rw [kz]; omega
  exact bC (Nn (by omega)) (bC (Nn (by omega)) (ai (Ap (by omega)) fun y hy=>ae (by omega)))
theorem Mo {b:ao} (hr:zq b) (h1:b.i.length<=40) (h2:b.s.length<=40) (h3:∀ r∈b.s,r.v.length<=60):∃ y,f8 b=some y/\fK b=some y/\HJ y:=by
 obtain⟨v1,v2⟩:=A6 hr;cases hv:Na b with
 | false =>
  rw [hv] at v1 v2;refine⟨⟨#[]⟩,?_,?_,qq (by show (0:Nat)<=_; omega)⟩
  ·unfold f8;rw [v1,ad,fv,cond_true]
  ·unfold fK;rw [v2,ad,fv,cond_true]
 | true =>
  rw [hv] at v1 v2;have hb:=MY hr hv;have h4:=jX (W:=wo) (c:=2147483680) b.i fun x hx=>by
   have:=(hb.ins x hx).text;have:=(hb.ins x hx).value;rw [xF]; omega
  have h5:=jX (W:=lp) (c:=70000000000) b.s fun r hr=>by
   have:=(hb.recs r hr).text;have:=(hb.recs r hr).value;have:=h3 r hr;have h6:=jX (W:=lV) (c:=1073741840) r.v fun k O=>by
    have:=(hb.recs r hr).texts k O;rw [dI]; omega
   rw [u0]; omega
  have hd:=hb.rd (by rw [mD]; omega);exact⟨_,xm hd v1,zT hd v2,b,0,qr hd v1,C2 hd v2,hr⟩
theorem zq.rm {b:ao} (h:zq b):KO b.s/\Rm b.i.length:=by
 have h1:=h.nrec;have h2:=h.nin;refine⟨⟨by unfold Rm; omega,fun r hr=>?_⟩,by unfold Rm; omega⟩;have:=(h.recs r hr).reads;unfold Rm; omega
theorem CF {raw:ao} (hT:∀ r∈raw.s,r.d.t.size<=140737488355328/\∀ k∈r.v,k.t.size<=140737488355328) (hI:∀ x∈raw.i,x.d.t.size<=140737488355328) (t:List Int) (s:ByteArray) (what at_ by_:Int):jZ raw t s what at_ by_=some true:=by
 have key:dc.bind (fun u=>some u)=some true:=by rw [vg]; rfl
 unfold jZ;by_cases h1:(40:Int)<(raw.i.length:Int)
 ·rw [decide_eq_true h1,cond_true,key]
 rw [decide_eq_false h1,cond_false];by_cases h2:(40:Int)<(raw.s.length:Int)
 ·rw [decide_eq_true h2,cond_true,key]
 rw [decide_eq_false h2,cond_false];by_cases h3:(3000:Int)<(s.size:Int)
 ·rw [decide_eq_true h3,cond_true,key]
 rw [decide_eq_false h3,cond_false];rcases gD 400 t.length with ht | ht
 ·rw [wF (by omega),ad]; exact key
 rw [yH ht,ad,dJ,cond_false];have hlp:loop (fun s:Int=>eh raw s) 0=some (if (raw.s.any fun r=>decide ((60:Int)<(r.v.length:Int))) then Fl.out true else Fl.go ()) :=
  pC (xs:=raw.s) (fun r=>decide ((60:Int)<(r.v.length:Int))) (fun n=>(n:Int)) rfl
   (fun k x hx hp=>by have:=bh hx; unfold eh; rw [gO hx,cond_true,bn,hx,ad,hp,cond_false,cJ (by omega)])
   (fun k x hx hp=>by unfold eh; rw [gO hx,cond_true,bn,hx,ad,hp,cond_true,vg]; rfl)
   (by unfold eh; rw [bN]; rfl)
 rw [hlp,ad];cases ha:(raw.s.any fun r=>decide ((60:Int)<(r.v.length:Int))) with
 | true=>rfl
 | false =>
  rw [BB] at ha;have h60:∀ r∈raw.s,r.v.length<=60:=fun r hr=>by
   have:=ha r hr;simp only [decide_eq_true_eq] at this;omega
  have hraw:zq raw:=⟨by omega,by omega,fun r hr=>⟨by have:=h60 r hr; omega,(hT r hr).1,(hT r hr).2⟩,hI⟩;rw [if_neg (by decide)];show gS raw t s what at_ by_=some true;refine H9 ?_;unfold gS;refine aG (v:=bv.mk t 0) rfl (ai (Ff (d:=t) (i:=0) ⟨by omega,by omega,ht⟩ (by omega) (by omega)) fun u ⟨C,hB,hrev,hd⟩=>?_);have hl:=C.high;have hb:=zu hl hB;have hv:=wX hB hl;have hsm:=yr hl hB;have hrb:=Ic (b:=u.2.1) (by omega);obtain⟨v1,v2⟩:=A6 hrb;rw [v1] at hv;rw [cC hv] at v1 v2;obtain⟨y,y1,y2,y3⟩:=Mo hraw (by omega) (by omega) h60;refine aG (xm hb v1) (aG y1 (aG (zT hb v2) ?_));rw [beq_self_eq_true,dJ,cond_false];refine aG y2 ?_;rw [beq_self_eq_true,dJ,cond_false];have hx:=tG (gf u.2.1);generalize i8 (gf u.2.1)=x at hx;refine ai (Ap (s:=s) (by omega)) fun a ha=>ai (Jz (s:=x) (by omega)) fun c hc=>ai (Jz (s:=x) (by omega)) fun e he=>?_;have hall:∀ z∈[x,y,s,a,c,e],HJ z:=fun z hz=>by
   simp only [dX,fu,or_false] at hz;rcases hz with rfl | rfl | rfl | rfl | rfl | rfl
   ·exact qq (by omega)
   ·exact y3
   ·exact qq (by omega)
   ·exact qq (by omega)
   ·exact qq (by omega)
   ·exact qq (by omega)
  have hloop:loop (fun q:(List ByteArray)×Int=>eg s x y a c e q.1 q.2) ([x,y,s,a,c,e],0)=some (Fl.go ()) :=
   mK (B:=fun q:(List ByteArray)×Int=>eg s x y a c e q.1 q.2) (fun k=>([x,y,s,a,c,e],(k:Int))) 6 rfl (fun k O=>by
    dsimp only;have hk6:k<([x,y,s,a,c,e]).length:=O;obtain⟨b,f,g1,g2,g3⟩:=hall _ (iK hk6);unfold eg;rw [show ([x,y,s,a,c,e]:List ByteArray).length=6 from rfl,dlt (n:=6) O,cond_true,bq hk6,ad,g1,ad,g2,ad];dsimp only;rw [A0 (b:=b) g3.rm.1 g3.rm.2,ad,dJ,cond_false,show ((f:Int) != f)=false by simp,cond_false,cJ (by omega)]) (by
    dsimp only;unfold eg;rfl)
  refine aG hloop ?_;show Ok (gR) _;unfold gR;rw [key];exact ae rfl
end
end Go.Proofs.YtcpplgcgcbihoaaGreatDoor
