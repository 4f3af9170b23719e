/- Texts of the proof, joined (6). -/
import Derived.Test.YtllbbcgnnoonoaaGreatDoorA5
import Derived.Test.YtllbbcgnnoonoaaGreatDoorA3
import Derived.Test.YtllbbcgnnoonoaaGreatDoorA4
import Derived.Test.YtllbbcgnnoonoaaGreatDoorA0
import Derived.Test.YtllbbcgnnoonoaaGreatDoorRows
import Derived.ProofKit
import Derived.LaidMore
import Derived.LaidLaws
import Derived.MakeChecks
import Derived.Lib.LaidTab
import Derived.SizedLaws
import Derived.Deep.Slices
import Derived.Deep.Fields
import Derived.Lib.SmallJoins
import Derived.OpenShut
import GoSem.ClaimGoes
set_option linter.unusedVariables false
set_option linter.unusedSimpArgs false
set_option linter.unusedSectionVars false
namespace Go.Proofs.YtllbbcgnnoonoaaGreatDoor
open Go.RowKit
section
open Go.Lib hiding intOf
section
variable {l:List aL} {H:Int->ae->ByteArray} {b:ap} {P:ae->Prop}
theorem GM (C:bk l) {n i:Nat} (hn:n<l.length) (hi:i<B5 (aW l) n):qM (aW l) i<=qM (aW l) n/\((aW l)[n]? ≠ some true->qM (aW l) i<qM (aW l) n):=by
 by_cases hr:(aW l)[n]? = some true
 ·refine⟨?_,fun h=>absurd hr h⟩;by_cases hp:(aW l)[i]? = some true
  ·exact AQ hr hi hp
  ·have:=yN hr hi hp;rw [vj hp]; omega
 ·have:=AD hr hi;exact⟨by omega,fun _=>this⟩
theorem AH (C:bk l) (hB:jo l b) (h:VI l H b P) {m:ar} (hm:m∈b.s) {n i:Nat} (hn:n<l.length) (hi:i<l.length) (O:m.b=rk l n) (hx:rk l i∈m.v):qM (aW l) i<=qM (aW l) n/\((aW l)[n]? ≠ some true->qM (aW l) i<qM (aW l) n):=by
 have hl:=C.high;have hg:=bh hn;rw [(h.recv m hm n _ hg O).2] at hx;rcases tc C hg hx with⟨c,_,e⟩|⟨j,hj,hjl,e⟩
 ·exact absurd e.symm rI
 ·obtain rfl:i=j:=uK (by omega) (by omega) e;exact GM C hn hj
theorem Lq (C:bk l) (hB:jo l b) (h:VI l H b P) {y z:ae} (hs:iE (Ek b.s b.r) y z):∀ n,n<l.length->y=rk l n->∃ j,j<l.length/\z=rk l j/\qM (aW l) j<=qM (aW l) n:=by
 induction hs with
 | refl=>exact fun n hn e=>⟨n,hn,e,bx _⟩
 | @snoc u w h1 h2 ih =>
  intro n hn e;obtain⟨j,hj,e1,r1⟩:=ih n hn e;obtain⟨o1,o2,o3⟩:=h2;obtain⟨⟨a1,_,_⟩,_⟩:=(eI hB).1 o1;obtain⟨⟨b1,_,_⟩,_⟩:=(eI hB).1 o3;obtain⟨c1,c2⟩:=cB a1;obtain⟨d1,d2⟩:=cB b1;obtain⟨i,hi,e2⟩:=(hB.recs _ d1).key;rw [d2] at e2;have:=(AH C hB h c1 hj hi (c2.trans e1) (by rw [<- e2]; exact o2)).1;exact⟨i,hi,e2,by omega⟩
theorem Mb (C:bk l) (hB:jo l b) (h:VI l H b P) {n i:Nat} (hn:n<l.length) (hi:i<l.length) (O:Nv b (rk l n)) {g:List ae} (hg:DR b (rk l n) g) {c:dD} (hc:c∈dH b.s g g) (e:c.s1=rk l i):qM (aW l) i<=qM (aW l) n/\((aW l)[n]? ≠ some true->qM (aW l) i<qM (aW l) n):=by
 obtain⟨c1,c2,c3⟩:=uc.1 hc;have hmem:(bj b.s c.r1).2=true:=by
  cases hf:(bj b.s c.r1).2 with
  | true=>rfl
  | false=>unfold AG at c2; rw [(rL hf).1] at c2; cases c2
 obtain⟨f1,f2⟩:=cB hmem;rcases hg with⟨h1,rfl⟩|⟨h1,h2⟩
 ·have:=cp.1 c1;exact AH C hB h f1 hn hi (f2.trans this) (by rw [<- e]; exact c2)
 ·obtain⟨j,hj,e2,r⟩:=Lq C hB h ((h2.2 _).1 c1).1 n hn rfl;have:=(AH C hB h f1 hj hi (f2.trans e2) (by rw [<- e]; exact c2)).1;refine⟨by omega,fun hr=>?_⟩;have:=((eI hB).1 h1).2;rw [FD] at this;exact absurd (of_decide_eq_true this) hr
end
def Pb (x:aM) (k:ae):Prop:=cI x.e k=true/\lY k=true
def RA (l:List aL) (x:aM) (k:ae):Prop:=∀ n,n<l.length->k=rk l n->∀ m,m<l.length->cI x.e (rk l m)=true->(aW l)[m]? ≠ some true->qM (aW l) n<qM (aW l) m
def mO (b:ap) (P:ae->Prop):Prop:=∀ m∈b.s,m.u=b.r/\∀ k∈m.v,yT b P k
theorem mO.weak {b:ap} {P P':ae->Prop} (h:mO b P) (hp:∀ k,P k->cH b k=true∨P' k):mO b P':=fun m hm=>⟨(h m hm).1,fun k O=>by
 rcases (h m hm).2 k O with h1 | h1 | h1
 ·exact .inl h1
 ·exact .inr (.inl h1)
 ·exact .inr (hp k h1)⟩
theorem Ac {b b':ap} {P:ae->Prop} (h:ox b b') {k:ae} (t:yT b P k):yT b' P k:=by
 rcases t with h1 | h1 | h1
 ·exact .inl h1
 ·exact .inr (.inl (h k h1))
 ·exact .inr (.inr h1)
theorem mO.put {b:ap} {P:ae->Prop} (h:mO b P) {q:ar} (hv:ox b ⟨b.r,b.i,eY b.s q⟩) (q4:q.u=b.r) (ht:∀ k∈q.v,yT b P k):mO ⟨b.r,b.i,eY b.s q⟩ P:=fun m hm=>by
 rcases gk.1 hm with rfl | ⟨hm,_⟩
 ·exact⟨q4,fun k O=>Ac hv (ht k O)⟩
 ·exact⟨(h m hm).1,fun k O=>Ac hv ((h m hm).2 k O)⟩
theorem mO.mark {b:ap} {P:ae->Prop} (h:mO b P) {g:List ae} {d:Bool} (hv:ox b ⟨b.r,b.i,b.s.map (dj g d b.r)⟩):mO ⟨b.r,b.i,b.s.map (dj g d b.r)⟩ P:=fun m' hm'=>by
 obtain⟨m,hm,rfl⟩:=cL.1 hm';obtain⟨h1,h2⟩:=h m hm;by_cases hg:m.b∈g
 ·rw [r8 hg];cases d with
  | true=>exact⟨h1,fun k O=>Ac hv (h2 k O)⟩
  | false=>exact⟨rfl,fun k O=>Ac hv (h2 k O)⟩
 ·rw [rj hg];exact⟨h1,fun k O=>Ac hv (h2 k O)⟩
structure PV (l:List aL) (V:Nat->ByteArray) (H:Int->ae->ByteArray) (b0:ap) (x x':aM):Prop where
 post:Ce l V b0 x x'
 vi:VI l H x'.B (Pb x')
 st:mq x.B x'.B
 e0:x'.E=0
 rn:∀ k∈x'.z,k∈x.z∨cH x.B k=false
 fu:mO x.B (Pb x)->mO x'.B (Pb x')
section
variable {l:List aL} {V:Nat->ByteArray} {H:Int->ae->ByteArray} {b0:ap} {x y z:aM}
theorem GG (h:∀ k,cI y.e k=cI x.e k) {k:ae} (O:Pb x k):Pb y k:=⟨by rw [h]; exact O.1,O.2⟩
theorem PV.refl (h:GD l V b0 x) (hv:VI l H x.B (Pb x)) (he:x.E=0):PV l V H b0 x x:=⟨Ce.refl h,hv,mq.refl _,he,fun _ h=>.inl h,id⟩
theorem Dq {b b':ap} (h:ox b b') {k:ae} (e:cH b' k=false):cH b k=false:=by
 cases h1:cH b k with
 | false=>rfl
 | true=>rw [h k h1] at e; cases e
theorem PV.trans (hx:GD l V b0 x) (h:PV l V H b0 x y) (k:PV l V H b0 y z):PV l V H b0 x z:=⟨h.post.trans k.post,k.vi,h.st.trans hx.base h.post.ok.base k.st,k.e0,fun q hq=>(k.rn q hq).elim (h.rn q) fun e=>.inr (Dq h.st.ver e),fun hf=>k.fu (h.fu hf)⟩
theorem PV.base (h:GD l V b0 x) (he:x.E=0) {b:ap} (hb:jo l b) (st:mq x.B b) (hv:VI l H b (Pb x)) (hfu:mO x.B (Pb x)->mO b (Pb x)) {s:aA} (hs:wK l V b0 s):PV l V H b0 x ⟨s,b,x.e,x.z,x.E⟩ :=
 ⟨Ce.base h hb st.rev st.ins st.ver hs,hv,st,he,fun _ h=>.inl h,fun hf=>hfu hf⟩
theorem Js (hB:jo l x.B) {k:ae} (O:og l k) (h:ot x k=true):yT x.B (Pb x) k:=by
 rcases O with⟨c,_,rfl⟩|⟨n,_,rfl⟩
 ·exact .inl ⟨c,rfl⟩
 ·unfold ot at h;rw [HA,E9,wB,lq] at h;rcases h with h | h
  ·exact .inr (.inr h)
  ·exact .inr (.inl h)
def UV (l:List aL) (V:Nat->ByteArray) (H:Int->ae->ByteArray) (b0:ap) (urec:aM->ae->Option aM) (f:Nat):Prop :=
 ∀ x k,GD l V b0 x->psi l x<=8->og l k->K8 l x.e<f->VI l H x.B (Pb x)->x.E=0->RA l x k->Ok (urec x k) fun x'=>PV l V H b0 x x'/\ot x' k=true
def Ui (l:List aL) (V:Nat->ByteArray) (H:Int->ae->ByteArray) (b0:ap) (x:aM) (n k:Nat):Int×Int×(List be)×(List ar)×(List (ae×Bool))×(List ae)×Int×(List aL)×Int×(List be)×(List ar)×(List (ae×ByteArray))×(List (ae×(List ae)))->Prop
 | (at_,rev,ins,recs,busy,ran,e,rules,srev,sins,srecs,memo,seen)=>∃ a:Nat,at_=(a:Int)/\a<=1000000/\PV l V H b0 x (LF rev ins recs busy ran e rules srev sins srecs memo seen)/\k+Qe l (ap.mk rev ins recs)*1000001+(1000000-a)<=20000000/\k<=20000001 /\
   (Nv (ap.mk rev ins recs) (rk l n)->wh l H (ap.mk rev ins recs) (Pb (LF rev ins recs busy ran e rules srev sins srecs memo seen)) (rk l n) a)
def Vy (l:List aL) (V:Nat->ByteArray) (H:Int->ae->ByteArray) (b0:ap) (x:aM) (k:ae):Fl (Int×(List be)×(List ar)×(List (ae×Bool))×(List ae)×Int×(List aL)×Int×(List be)×(List ar)×(List (ae×ByteArray))×(List (ae×(List ae)))) (Bool×aM)->Prop
 | .go _=>False
 | .out (a,x')=>PV l V H b0 x x'/\(a=false->cH x'.B k=true)/\(a=true->wG x'.B.s x'.B.r k=false)
section
variable {urec:aM->ae->Option aM} {f n:Nat} (C:bk l) (hD:GC l (inB b0) V) (hb0:Rm b0.i.length) (hV:V=Vd l (H b0.r)) (hu:UV l V H b0 urec f) (hn:n<l.length) (hx:GD l V b0 x) (hp:psi l x<=8) (hf:K8 l x.e<f)
 (hbl:∀ m,m<l.length->cI x.e (rk l m)=true->(aW l)[m]? ≠ some true->m≠n->qM (aW l) n<qM (aW l) m)
include C hD hb0 hV hu hn hx hp hf hbl
theorem GY {k:Nat} (O:k<=20000001):∀ s,Ui l V H b0 x n k s->Ok (fQ urec vv (rk l n) s.1 s.2.1 s.2.2.1 s.2.2.2.1 s.2.2.2.2.1 s.2.2.2.2.2.1 s.2.2.2.2.2.2.1 s.2.2.2.2.2.2.2.1 s.2.2.2.2.2.2.2.2.1 s.2.2.2.2.2.2.2.2.2.1 s.2.2.2.2.2.2.2.2.2.2.1 s.2.2.2.2.2.2.2.2.2.2.2.1 s.2.2.2.2.2.2.2.2.2.2.2.2) fun y=>match y with
   | .go s'=>k<20000001/\Ui l V H b0 x n (k+1) s'
   | .out y=>Vy l V H b0 x (rk l n) y:=by
 rintro⟨at_,rev,ins,recs,busy,ran,e,rules,srev,sins,srecs,memo,seen⟩ ⟨a,rfl,ha,h1,h2,h3,h4⟩;dsimp only;have hl:=C.high;have hE:=h1.post.ok;have hB:jo l (ap.mk rev ins recs):=hE.base;have I:LE recs:=(hB.rm hl).2.2;obtain rfl:e=0:=h1.e0;have hVb:V=Vd l (H (ap.mk rev ins recs).r):=by rw [hV]; congr 1; exact congrArg H hE.rev.symm
 unfold fQ;refine aS (fun _=>?_) (fun he=>absurd he (by simp));refine aX (hB.find hl _) ?_;unfold jv;refine aS (fun hn1=>aq ⟨h1,(fun e=>by cases e),fun _=>?_⟩) (fun hfound=>?_)
 ·have:(bj recs (rk l n)).2=false:=by simpa using hn1
  show wG recs rev (rk l n)=false;unfold wG;rw [this]; rfl
 have hfound:(bj recs (rk l n)).2=true:=by simpa using hfound
 refine aS (fun hd=>aq ⟨h1,(fun e=>by cases e),fun _=>?_⟩) (fun hdirty=>?_)
 ·have hd:(bj recs (rk l n)).1.y=true:=hd;show wG recs rev (rk l n)=false;unfold wG Kd;rw [hd]; simp
 have hdirty:(bj recs (rk l n)).1.y=false:=hdirty;refine aS (fun hver=>aq ⟨h1,(fun _=>?_),fun e=>by cases e⟩) (fun hver=>?_)
 ·show cH (ap.mk rev ins recs) (rk l n)=true;unfold cH;have:(bj recs (rk l n)).1.u=rev:=by simpa using hver
  simp [hfound,this]
 have hnv:Nv (ap.mk rev ins recs) (rk l n):=⟨hfound,hdirty,by
  unfold cH;have:(bj recs (rk l n)).1.u≠rev:=by simpa using hver
  simp [this]⟩
 have h4:=h4 hnv;refine aP (MX (b:=ap.mk rev ins recs) I (rk l n)) fun g ⟨hg1,hg2,hg3⟩=>?_;refine aX (KL I (by omega)) ?_;have hlen:(dH recs g g).length<=1000000:=by have:=wR I g g; omega
 have hgm:Rm g.length:=by unfold Rm; omega
 refine aS (fun hat=>?_) (fun hat=>?_)
 ·have hat:=of_decide_eq_true hat;refine aX (J7 (b:=ap.mk rev ins recs) (hB.rm hl).1 (hB.rm hl).2.1 hgm false) (aq ⟨h1.trans hx (PV.base hE rfl (hB.mark g false (fun e=>by cases e)) (mq.mark hB hg3 false) (h1.vi.markG C hB hnv hg3 h4 (by show (dH recs g g).length<=a; omega)) (fun hf=>hf.mark (mq.mark hB hg3 false).ver) hE.sol),(fun _=>Jw hB hfound hg2),fun e=>by cases e⟩)
 ·have hlt:a<(dH recs g g).length:=by have hat:¬ (((dH recs g g).length:Int)<=(a:Int)):=of_decide_eq_false hat; omega
  have hc:=bh hlt;generalize (dH recs g g)[a]=c at hc;have hcm:=az hc;have hcr:=GZ hcm;have hgood:=hB.rdGood (b:=ap.mk rev ins recs) hcr;refine aX (by rw [aV]; exact hc) (aX (NB hE.base hl c.s1) ?_);refine aS (fun hth=>?_) (fun hth=>?_)
  ·have hth:ot (LF rev ins recs busy ran 0 rules srev sins srecs memo seen) c.s1=false:=by simpa using hth
   refine aP (hu _ c.s1 hE (du h1.post.psi hp) hgood (by rw [AB h1.post.busy]; exact hf) h1.vi rfl ?_) fun x' ⟨g1,ht⟩=>?_
   ·intro i hi ei m hm hbm hrm;have hbm:cI x.e (rk l m)=true:=by rw [<- h1.post.busy]; exact hbm
    obtain⟨r1,r2⟩:=Mb C hB h1.vi hn hi hnv hg3 hcm ei;by_cases hmn:m=n
    ·subst hmn; exact r2 hrm
    ·have:=hbl m hm hbm hrm hmn;omega
   refine aq ⟨by omega,a,rfl,ha,h1.trans hx g1,?_,by omega,fun hk'=>?_⟩
   ·obtain⟨j,hj,hcj⟩:∃ j,j<l.length/\c.s1=rk l j:=by
     rcases hgood with⟨q,_,hq⟩ | h
     ·unfold ot at hth;rw [hq,yF] at hth;simp at hth
     ·exact h
    have hlt2:Qe l x'.B<Qe l (ap.mk rev ins recs):=by
     unfold Qe;unfold ot at ht hth;rw [hcj,HA,E9] at ht hth;rw [Bool.or_eq_false_iff] at hth;rw [g1.post.busy] at ht;have hth1:(cI busy (rk l j)&&lY (rk l j))=false:=hth.1;have hth2:cH (ap.mk rev ins recs) (rk l j)=false:=hth.2;have ht2:cH x'.B (rk l j)=true:=by
      have ht3:((cI busy (rk l j)&&lY (rk l j))||cH x'.B (rk l j))=true:=ht;rw [hth1,E9] at ht3;exact ht3
     refine Fz (i:=j) (fun m hm=>?_) (by rw [ht2]; rfl) (by rw [hth2]; rfl) _ hj;rw [sw] at hm ⊢;cases e:cH (ap.mk rev ins recs) (rk l m) with
     | false=>rfl
     | true=>rw [g1.post.ver _ e] at hm; cases hm
    show k+1+Qe l x'.B*1000001+(1000000-a)<=20000000;omega
   ·exact wh.step hl hB g1.post.ok.base g1.st (fun q hq=>.inl (GG g1.post.busy hq)) (fun _=>h4) hk'
  ·have hth:ot (LF rev ins recs busy ran 0 rules srev sins srecs memo seen) c.s1=true:=by simpa using hth
   refine aX (hB.find hl _) ?_;unfold ju;refine aP (GX (b:=ap.mk rev ins recs) C hD hb0 hVb hE.sol hB h1.vi hgood) fun y ⟨hy,hch⟩=>?_;refine aS (fun _=>?_) (fun hle=>?_)
   ·refine aX (n8 _) (aS (fun hcy=>?_) (fun hcy=>?_))
    ·refine aX (J7 (b:=ap.mk rev ins recs) (hB.rm hl).1 (hB.rm hl).2.1 hgm true) ?_;have hd:true=true->∀ q∈g,lY q=true:=fun _ q hq=>by
      rcases hg3 with⟨_,rfl⟩|⟨q1,h⟩
      ·rw [cp.1 hq]; exact hcy
      ·exact (MY (qQ q1 ((h.2 q).1 hq).1)).1
     refine aq ⟨h1.trans hx (PV.base hE rfl (hB.mark g true hd) (mq.mark hB hg3 true) (h1.vi.dirty g) (fun hf=>hf.mark (mq.mark hB hg3 true).ver) hy),(fun e=>by cases e),fun _=>?_⟩;have hst:=mq.mark hB hg3 true;cases ho:wG (recs.map (dj g true rev)) rev (rk l n) with
     | false=>rfl
     | true =>
      have hnv2:=((eI (hB.mark g true hd)).1 ho).1;have hfe:(bj (recs.map (dj g true rev)) (rk l n)).1.y=false:=hnv2.2.1;rw [vI hB.recsA g true rev,hfound,if_pos rfl,r8 (by rw [(cB hfound).2]; exact hg2)] at hfe;cases hfe
    ·refine aq ⟨h1.trans hx (PV.base hE rfl hB (mq.refl _) h1.vi id hy),(fun e=>by cases e),fun _=>?_⟩;cases ho:wG recs rev (rk l n) with
     | false=>rfl
     | true =>
      have:=(MY ho).1;rw [this] at hcy; cases hcy
   ·have hle:=of_decide_eq_false hle;refine aq ⟨by omega,a+1,cy (by omega),by omega,h1.trans hx (PV.base hE rfl hB (mq.refl _) h1.vi id hy),?_,by omega,fun hk'=>?_⟩
    ·show k+1+Qe l (ap.mk rev ins recs)*1000001+(1000000-(a+1))<=20000000;omega
    ·refine h4.snoc hB hk' hg3 hc (Js (x:=LF rev ins recs busy ran 0 rules srev sins srecs memo seen) hB hgood hth) fun m hm hmk=>?_;obtain⟨c1,c2,c3⟩:=uc.1 hcm;have hfm:=iX hB.recsA hm hmk;have hmv:m.u<rev:=by
      have hmn:Nv (ap.mk rev ins recs) c.r1:=by
       rcases hg3 with⟨_,rfl⟩|⟨q1,h⟩
       ·rw [cp.1 c1]; exact hnv
       ·exact ((eI hB).1 (qQ q1 ((h.2 _).1 c1).1)).1
      have:=(Tq hB hmn).2.2;rw [hfm] at this;exact this
     have hmr:c.s1∈m.v:=by unfold AG at c2; have c2:c.s1∈(bj recs c.r1).1.v:=c2; rw [hfm] at c2; exact c2
     refine h1.vi.chk hB hm hmv hmr hch ?_;have hle:¬ (bj recs c.r1).1.u<y.1:=hle;rw [hfm] at hle;have hle:¬ m.u<y.1:=hle;omega
theorem KK (hv:VI l H x.B (Pb x)) (he:x.E=0):Ok (f0 urec vv x (rk l n)) fun y=>PV l V H b0 x y.2/\(y.1=false->cH y.2.B (rk l n)=true)/\(y.1=true->wG y.2.B.s y.2.B.r (rk l n)=false):=by
 have hl:=C.high;unfold f0;refine bL (Ui l V H b0 x n) (Vy l V H b0 x (rk l n)) 20000001 ⟨0,rfl,cT _,PV.refl hx hv he,?_,cT _,fun _=>wh.zero _⟩ (fun k s O hI=>(GY C hD hb0 hV hu hn hx hp hf hbl O s hI).mono fun y hy=>by cases y <;> exact hy) ?_
 ·have:=xI (fun n=>!cH x.B (rk l n)) l.length;show 0+Qe l x.B*1000001+(1000000-0)<=20000000;unfold Qe;omega
 ·rintro (s | ⟨a,x'⟩) hr
  ·exact absurd hr (fun h=>h)
  ·exact aq hr
end
end
end
section
open Go.Lib hiding intOf
section
variable {l:List aL} {V:Nat->ByteArray} {H:Int->ae->ByteArray} {b0:ap} {x y z:aM}
theorem mq.op {b b':ap} (hB:jo l b) (hB':jo l b') (s:mq b b') {k:ae} (h:wG b.s b.r k=false):wG b'.s b'.r k=false:=by
 cases ho:wG b'.s b'.r k with
 | false=>rfl
 | true =>
  obtain⟨h1,h2⟩:=(eI hB').1 ho;rw [(eI hB).2 ⟨(s.nv k h1).1,h2⟩] at h; cases h
structure RH (l:List aL) (V:Nat->ByteArray) (H:Int->ae->ByteArray) (b0:ap) (x:aM) (k:ae) (x':aM):Prop where
 ok:GD l V b0 x'
 busy:∀ k,cI x'.e k=cI x.e k
 psi:psi l x'<=psi l x+1
 done:cH x'.B k=true
 vi:VI l H x'.B (Pb x')
 st:mq x.B x'.B
 e0:x'.E=0
 rn:∀ q∈x'.z,q∈x.z∨q=k∨cH x.B q=false
 fu:mO x.B (Pb x)->mO x'.B (Pb x')
def Ue (l:List aL) (V:Nat->ByteArray) (H:Int->ae->ByteArray) (b0:ap) (x:aM) (r:aL) (k:Nat):(List ae)×(List ByteArray)×Int×(List be)×(List ar)×(List (ae×Bool))×(List ae)×Int×(List aL)×Int×(List be)×(List ar)×(List (ae×ByteArray))×(List (ae×(List ae)))->Prop
 | (rd,ws,rev,ins,recs,busy,ran,e,rules,srev,sins,srecs,memo,seen)=>PV l V H b0 x (LF rev ins recs busy ran e rules srev sins srecs memo seen)/\k<=r.c.length/\ws=eW l (H b0.r) V r k/\rd=kT l (H b0.r) V r k/\∀ q∈rd,yT (ap.mk rev ins recs) (Pb (LF rev ins recs busy ran e rules srev sins srecs memo seen)) q
def Uj (l:List aL) (V:Nat->ByteArray) (H:Int->ae->ByteArray) (b0:ap) (x:aM) (k:ae):Fl (Int×(List be)×(List ar)×(List (ae×Bool))×(List ae)×Int×(List aL)×Int×(List be)×(List ar)×(List (ae×ByteArray))×(List (ae×(List ae)))) aM->Prop
 | .go _=>False
 | .out x'=>RH l V H b0 x k x'
section
variable {urec:aM->ae->Option aM} {f n:Nat} {r:aL} (C:bk l) (hD:GC l (inB b0) V) (hb0:Rm b0.i.length) (hV:V=Vd l (H b0.r)) (hu:UV l V H b0 urec f) (hn:l[n]? = some r) (hx:GD l V b0 x) (hp:psi l x<=8) (hf:K8 l x.e<f)
 (hbl:∀ m,m<l.length->cI x.e (rk l m)=true->(aW l)[m]? ≠ some true->m≠n->qM (aW l) n<qM (aW l) m) (ho:wG x.B.s x.B.r (rk l n)=false)
include C hD hb0 hV hu hn hx hp hf hbl ho
theorem Ll {k:Nat}:∀ s,Ue l V H b0 x r k s->Ok (im urec vv (rk l n) s.1 s.2.1 s.2.2.1 s.2.2.2.1 s.2.2.2.2.1 s.2.2.2.2.2.1 s.2.2.2.2.2.2.1 s.2.2.2.2.2.2.2.1 s.2.2.2.2.2.2.2.2.1 s.2.2.2.2.2.2.2.2.2.1 s.2.2.2.2.2.2.2.2.2.2.1 s.2.2.2.2.2.2.2.2.2.2.2.1 s.2.2.2.2.2.2.2.2.2.2.2.2.1 s.2.2.2.2.2.2.2.2.2.2.2.2.2) fun y=>match y with
   | .go s'=>k<r.c.length/\Ue l V H b0 x r (k+1) s'
   | .out y=>Uj l V H b0 x (rk l n) y:=by
 rintro⟨rd,ws,rev,ins,recs,busy,ran,e,rules,srev,sins,srecs,memo,seen⟩ ⟨h1,O,h2,h3,h4⟩;dsimp only;have hl:=C.high;have h3l:=(C.each n r hn).asks;have hnl:=aU hn;have hE:=h1.post.ok;have hB:jo l (ap.mk rev ins recs):=hE.base;have hru:rules=l:=hE.sol.rules;obtain rfl:e=0:=h1.e0;obtain rfl:rev=b0.r:=hE.rev;have hwl:ws.length=k:=by rw [h2]; exact wO O
 have hrl0:rd.length=k:=by rw [h3]; exact CY O
 have hgd:∀ q∈rd,og l q:=fun q hq=>by
  rw [h3] at hq;rcases tc C hn hq with⟨c,hc,e⟩|⟨j,_,hj,e⟩
  ·exact .inl ⟨c,hc,e⟩
  ·exact .inr ⟨j,hj,e⟩
 unfold im;refine aS (fun _=>?_) (fun he=>absurd he (by simp));obtain⟨t,ht,hcase⟩:=x4 C hn (ws:=ws) (by omega);refine aX (by rw [hru]; exact ht) ?_;unfold ku;rcases hcase with⟨e1,rfl⟩|⟨w,hw,rfl⟩
 ·simp only [cond_true];refine aX (hB.find hl _) ?_;obtain⟨m,hm1,hm2⟩:=yD C hn (ls:=ws) (by omega);obtain⟨q,q1,q2,q3,q4,q5,q6,q7⟩:=MM (b:=ap.mk b0.r ins recs) C hB hnl (v:=cV (w7 r ws)) (by rw [hm1]; exact I7 hm2) (reads:=rd) (by omega) hgd;have hran:ran.length<=8:=by have h:=h1.post.psi; unfold psi at h hp; have h:ran.length+_<=x.z.length+_:=h; omega
  have hput:rv recs q=some (eY recs q):=Lh hB.recsA (hB.rm hl).1.1 (by have:=q2.reads; unfold Rm; omega);have hkk:k=r.c.length:=by omega
  have hval:q.t=Vd l (H b0.r) n:=by rw [q5,h2,hkk,hV]; exact (CF C hn).symm
  have hrds:q.v=kT l (H b0.r) (Vd l (H b0.r)) r r.c.length:=by rw [q6,h3,hkk,hV]
  have hop:wG recs b0.r q.b=false:=by rw [q3]; exact h1.st.op hx.base hB ho
  have hvi:VI l H ⟨b0.r,ins,eY recs q⟩ (Pb (LF b0.r ins (eY recs q) busy (ran++[rk l n]) 0 rules srev sins srecs memo seen)):=h1.vi.put C hB hn q3 hval hrds q4 q7 (fun z hz=>h4 z (by rw [<- q6]; exact hz));have hj2:Ok (fy (rk l n) rd b0.r ins recs busy ran 0 rules srev sins srecs memo seen (cV (w7 r ws)) false) fun y=>match y with
   | .go s'=>k<r.c.length/\Ue l V H b0 x r (k+1) s'
   | .out y=>Uj l V H b0 x (rk l n) y:=by
   unfold fy;simp only [cond_false];refine aX q1 (aX hput (cY (eZ (by simp; omega)) (aq ?_)));obtain⟨v1,v2⟩:=Gh hB q4;rw [q3] at v2;refine⟨⟨hE.sol,hB.put q2,rfl,hE.ins,hE.nd⟩,h1.post.busy,?_,v2,hvi,h1.st.trans hx.base hB (mq.put hB q4 hop),rfl,fun z hz=>(cM.1 hz).elim (fun hz=>(h1.rn z hz).imp id .inr) fun hz=>.inr (.inl (cp.1 hz)),fun hf=>(h1.fu hf).put (mq.put hB q4 hop).ver q4 (fun z hz=>h4 z (by rw [<- q6]; exact hz))⟩;have hc:=G5 (l:=l) (m:=busy) v1 (fun _ e=>e) l.length;have hpp:=h1.post.psi;have hpp:ran.length+Bd (fun n=>!cH (ap.mk b0.r ins recs) (rk l n)||cI busy (rk l n)) l.length<=Go.Proofs.YtllbbcgnnoonoaaGreatDoor.psi l x:=hpp;show (ran++[rk l n]).length+Bd (fun n=>!cH (ap.mk b0.r ins (eY recs q)) (rk l n)||cI busy (rk l n)) l.length<=Go.Proofs.YtllbbcgnnoonoaaGreatDoor.psi l x+1;have hc:Bd (fun n=>!cH (ap.mk b0.r ins (eY recs q)) (rk l n)||cI busy (rk l n)) l.length<=Bd (fun n=>!cH (ap.mk b0.r ins recs) (rk l n)||cI busy (rk l n)) l.length:=hc;rw [br];simp only [dx,ma];omega
  unfold kr;have hrl:=hB.nrec;have hrl:recs.length<=l.length:=hrl;refine aS (fun _=>?_) (fun _=>hj2);rw [decide_eq_false (by omega)];exact hj2
 ·simp only [cond_false];have hlt:=aU hw;rw [hwl] at hw;obtain⟨_,hg⟩:=oB C hn hw ws;have hgood:og l (oh l w ws):=by
   rcases hg with⟨_,c,hc,_,e4⟩|⟨_,j,hj,_,e4⟩
   ·exact .inl ⟨c,hc,e4⟩
   ·exact .inr ⟨j,by have:=xe hnl; omega,e4⟩
  refine aP (hu _ (oh l w ws) hE (du h1.post.psi hp) hgood (by rw [AB h1.post.busy]; exact hf) h1.vi rfl ?_) fun x' ⟨g1,g2⟩=>?_
  ·intro i hi ei m hm hbm hrm;have hbm:cI x.e (rk l m)=true:=by rw [<- h1.post.busy]; exact hbm
   rcases hg with⟨_,c,_,_,e4⟩|⟨_,j,hj,_,e4⟩
   ·exact absurd (e4.symm.trans ei) rI
   ·obtain rfl:j=i:=uK (by have:=xe hnl; omega) (by omega) (e4.symm.trans ei);obtain⟨r1,r2⟩:=GM C hnl hj;by_cases hmn:m=n
    ·subst hmn; exact r2 hrm
    ·have:=hbl m hm hbm hrm hmn;omega
  have hE':=g1.post.ok;have hrev':x'.B.r=b0.r:=hE'.rev;refine aS (fun he=>?_) (fun he=>absurd he (by rw [g1.e0]; simp));have hV':V=Vd l (H x'.B.r):=by rw [hV,hrev']
  have hth:=Js hE'.base hgood g2;refine cY (eZ (by simp; omega)) (aP (IM C hD hb0 hV' hE'.sol hE'.base g1.vi hgood (by rcases hth with h | h | h; exact .inl h; exact .inr (.inl h); exact .inr (.inr h.2))) fun y ⟨hy,hya⟩=>cY (eZ (by simp; omega)) (aq ⟨by omega,(h1.trans hx g1).trans hx (PV.base hE' g1.e0 hE'.base (mq.refl _) g1.vi id hy),by omega,?_,?_,?_⟩))
  ·rw [q8 hw,<- h2,hya,hrev'];congr 2;rw [hV,xH C hn hw]
  ·rw [rp hw,<- h2,<- h3]
  ·intro q hq;show yT x'.B (Pb x') q;rcases cM.1 hq with hq | hq
   ·exact (h4 q hq).mono g1.st fun k O=>.inl (GG g1.post.busy O)
   ·rw [cp.1 hq]; exact hth
theorem O1 (hv:VI l H x.B (Pb x)) (he:x.E=0):Ok (iO urec vv x (rk l n)) (RH l V H b0 x (rk l n)):=by
 unfold iO;refine bL (Ue l V H b0 x r) (Uj l V H b0 x (rk l n)) r.c.length ⟨PV.refl hx hv he,cT _,rfl,rfl,fun q hq=>absurd hq cF⟩ (fun k s O hI=>(Ll C hD hb0 hV hu hn hx hp hf hbl ho s hI).mono fun y hy=>by cases y <;> exact hy) ?_;rintro (s | x') hr
 ·exact absurd hr (fun h=>h)
 ·exact aq hr
end
section
variable {urec:aM->ae->Option aM} {f n:Nat} (C:bk l) (hD:GC l (inB b0) V) (hb0:Rm b0.i.length) (hV:V=Vd l (H b0.r)) (hu:UV l V H b0 urec f) (hn:n<l.length) (hx:GD l V b0 x) (hp:psi l x<=8) (hf:K8 l x.e<f+1) (hvi:VI l H x.B (Pb x)) (he:x.E=0) (hbk:RA l x (rk l n))
include C hD hb0 hV hu hn hx hp hf hvi he hbk
theorem Pe (hv:cH x.B (rk l n)=false) (hbu:cI x.e (rk l n)=false):Ok ((f0 urec vv (aM.mk x.S x.B (ew aB (rk l n) true x.e) x.z x.E) (rk l n)).bind fun u116=>cond u116.1 ((iO urec vv (aM.mk (aA.mk u116.2.S.g (ap.mk u116.2.S.d.r u116.2.S.d.i u116.2.S.d.s) u116.2.S.f u116.2.S.m) (ap.mk u116.2.B.r u116.2.B.i u116.2.B.s) u116.2.e u116.2.z u116.2.E) (rk l n)).bind fun u117=>f7 (rk l n) u117.B.r u117.B.i u117.B.s u117.e u117.z u117.E u117.S.g u117.S.d.r u117.S.d.i u117.S.d.s u117.S.f u117.S.m) (f7 (rk l n) u116.2.B.r u116.2.B.i u116.2.B.s u116.2.e u116.2.z u116.2.E u116.2.S.g u116.2.S.d.r u116.2.S.d.i u116.2.S.d.s u116.2.S.f u116.2.S.m))
  fun x'=>PV l V H b0 x x'/\ot x' (rk l n)=true:=by
 have hl:=C.high;have hi:=bh hn;have hx1:GD l V b0 (aM.mk x.S x.B (ew aB (rk l n) true x.e) x.z x.E):=⟨hx.sol,hx.base,hx.rev,hx.ins,Nd.put dI hx.nd _ _⟩;have hp1:psi l (aM.mk x.S x.B (ew aB (rk l n) true x.e) x.z x.E)<=psi l x:=by
  refine Nat.add_le_add_left (Fy (fun m hm=>?_) _) _;rw [wB] at hm ⊢;rcases hm with hm | hm
  ·exact .inl hm
  ·rw [tp,wB,decide_eq_true_eq] at hm;rcases hm with hm | hm
   ·left; rw [hm,hv]; rfl
   ·exact .inr hm
 have hf1:K8 l (ew aB (rk l n) true x.e)<f:=by
  have:K8 l (ew aB (rk l n) true x.e)<K8 l x.e:=by
   refine Fz (i:=n) (fun m hm=>?_) (by rw [tp]; simp) (by rw [hbu]; rfl) _ hn;rw [tp,sw,Bool.or_eq_false_iff] at hm;rw [hm.2]; rfl
  omega
 have hvi1:VI l H x.B (Pb (aM.mk x.S x.B (ew aB (rk l n) true x.e) x.z x.E)):=hvi.weak fun q _ hq _=>⟨by show cI (ew aB (rk l n) true x.e) q.b=true; rw [tp,hq.1,Fa],hq.2⟩;have hbl:∀ m,m<l.length->cI (ew aB (rk l n) true x.e) (rk l m)=true->(aW l)[m]? ≠ some true->m≠n->qM (aW l) n<qM (aW l) m:=fun m hm hb hr hmn=>by
  rw [tp,wB,decide_eq_true_eq] at hb;rcases hb with hb | hb
  ·exact absurd (uK (by omega) (by omega) hb) hmn
  ·exact hbk n hn rfl m hm hb hr
 have fin:∀ {x2:aM},GD l V b0 x2->mq x.B x2.B->VI l H x2.B (Pb x2)->x2.E=0->(∀ k,cI x2.e k=(decide (k=rk l n)||cI x.e k))->psi l x2<=psi l x+1->cH x2.B (rk l n)=true->(∀ q∈x2.z,q∈x.z∨q=rk l n∨cH x.B q=false)->(mO x.B (Pb (aM.mk x.S x.B (ew aB (rk l n) true x.e) x.z x.E))->mO x2.B (Pb x2)) ->
   PV l V H b0 x ⟨x2.S,x2.B,tK aB (rk l n) x2.e,x2.z,x2.E⟩/\ot ⟨x2.S,x2.B,tK aB (rk l n) x2.e,x2.z,x2.E⟩ (rk l n)=true:=by
  intro x2 q1 q2 qv qe q3 q4 q6 qr qf;have hbz:∀ k,cI (tK aB (rk l n) x2.e) k=cI x.e k:=fun k=>by
   rw [zj q1.nd,q3];by_cases e:k=rk l n
   ·rw [e,hbu]; simp
   ·simp [e]
  have hm:∀ m,(!cH x2.B (rk l m)||cI (tK aB (rk l n) x2.e) (rk l m))=true->(!cH x2.B (rk l m)||cI x2.e (rk l m))=true:=fun m hm=>by
   rw [wB] at hm ⊢;rcases hm with hm | hm
   ·exact .inl hm
   ·rw [zj q1.nd,lq] at hm;exact .inr hm.2
  refine⟨⟨⟨⟨q1.sol,q1.base,q1.rev,q1.ins,Nd.del dI q1.nd _⟩,q2.ver,hbz,?_⟩,?_,q2,qe,fun q hq=>(qr q hq).imp id fun h=>h.elim (fun e=>e▸hv) id,fun hf=>(qf (hf.weak fun k O=>.inr ⟨by show cI (ew aB (rk l n) true x.e) k=true; rw [tp,O.1,Fa],O.2⟩)).weak fun k O=>?_⟩,?_⟩
  ·have hlt:Bd (fun m=>!cH x2.B (rk l m)||cI (tK aB (rk l n) x2.e) (rk l m)) l.length<Bd (fun m=>!cH x2.B (rk l m)||cI x2.e (rk l m)) l.length:=Fz (i:=n) hm (by rw [q6,hbz,hbu]; rfl) (by rw [q3]; simp) l.length hn;have q4:x2.z.length+Bd (fun m=>!cH x2.B (rk l m)||cI x2.e (rk l m)) l.length<=Go.Proofs.YtllbbcgnnoonoaaGreatDoor.psi l x+1:=q4;show x2.z.length+Bd (fun m=>!cH x2.B (rk l m)||cI (tK aB (rk l n) x2.e) (rk l m)) l.length<=Go.Proofs.YtllbbcgnnoonoaaGreatDoor.psi l x;omega
  ·refine qv.weak fun q hq hqp hqv=>⟨?_,hqp.2⟩;show cI (tK aB (rk l n) x2.e) q.b=true;rw [zj q1.nd,hqp.1,Bool.and_true,sw,decide_eq_false_iff_not];intro e;have h1:=Dp q1.base hq;rw [e,q6] at h1;have:=of_decide_eq_true h1.symm;omega
  ·by_cases e:k=rk l n
   ·exact .inl (e▸q6)
   ·refine .inr ⟨?_,O.2⟩;show cI (tK aB (rk l n) x2.e) k=true;rw [zj q1.nd,O.1,Bool.and_true,sw,decide_eq_false_iff_not];exact e
  ·unfold ot;show (_||cH x2.B (rk l n))=true;rw [q6,Fa]
 refine aP (KK C hD hb0 hV hu hn hx1 (du hp1 hp) hf1 hbl hvi1 he) fun u ⟨g1,g2,g3⟩=>?_;have hbu2:∀ k,cI u.2.e k=(decide (k=rk l n)||cI x.e k):=fun k=>by rw [g1.post.busy,tp]
 have hps:=g1.post.psi;refine aS (fun hc=>?_) (fun hc=>?_)
 ·refine aP (O1 C hD hb0 hV hu hi (x:=u.2) g1.post.ok (du g1.post.psi (du hp1 hp)) (by rw [AB g1.post.busy]; exact hf1) (fun m hm hb=>hbl m hm (by rw [<- g1.post.busy]; exact hb)) (g3 hc) g1.vi g1.e0) fun x3 h3=>?_;exact aq (fin h3.ok (g1.st.trans hx.base g1.post.ok.base h3.st) h3.vi h3.e0 (fun k=>(h3.busy k).trans (hbu2 k)) (by have:=h3.psi; omega) h3.done (fun q hq=>by
   rcases h3.rn q hq with h | h | h
   ·exact (g1.rn q h).imp id .inr
   ·exact .inr (.inl h)
   ·exact .inr (.inr (Dq g1.st.ver h))) fun hf=>h3.fu (g1.fu hf))
 ·exact aq (fin g1.post.ok g1.st g1.vi g1.e0 hbu2 (by omega) (g2 hc) (fun q hq=>(g1.rn q hq).imp id .inr) g1.fu)
end
theorem NG (C:bk l) (hD:GC l (inB b0) V) (hb0:Rm b0.i.length) (hV:V=Vd l (H b0.r)):∀ f,UV l V H b0 (Lu f) f
 | 0=>fun x k _ _ _ h _ _ _=>absurd h (by omega)
 | f+1=>by
  intro x k hx hp O hf hvi he hbk;have ih:=NG C hD hb0 hV f;have hl:=C.high;show Ok (l8 (Lu f) vv x k) _;unfold l8;refine aS (fun h0=>absurd h0 (by rw [he]; simp)) (fun _=>?_);refine aX (oI k) (aS (fun hi=>aq ⟨PV.refl hx hvi he,?_⟩) (fun hi=>?_))
  ·unfold ot;rw [hi]; rfl
  ·obtain⟨n,hn,rfl⟩:∃ n,n<l.length/\k=rk l n:=by
    rcases O with⟨c,_,rfl⟩ | h
    ·rw [yF] at hi; cases hi
    ·exact h
   refine aX (hx.base.find hl _) ?_;have hj3:cH x.B (rk l n)=false->Ok (f8 (Lu f) vv x (rk l n) false) fun x'=>PV l V H b0 x x'/\ot x' (rk l n)=true:=fun hv=>by
    unfold f8;simp only [cond_false,al];refine aS (fun hbu=>?_) (fun hbu=>Pe C hD hb0 hV ih hn hx hp hf hvi he hbk hv hbu);have hbu:cI x.e (rk l n)=true:=hbu;refine aX (n8 _) (aS (fun hcy=>?_) (fun hcy=>?_))
    ·have hc:lY (rk l n)=false:=by simpa using hcy
     rw [FD] at hc;have:=hbk n hn rfl n hn hbu (of_decide_eq_false hc);omega
    ·have hc:lY (rk l n)=true:=by simpa using hcy
     refine aq ⟨?_,?_⟩
     ·exact⟨⟨⟨hx.sol,hx.base,hx.rev,hx.ins,hx.nd⟩,ox.refl _,fun _=>rfl,bx _⟩,hvi,mq.refl _,he,fun _ h=>.inl h,fun hf=>hf⟩
     ·unfold ot;show (_||(cI x.e (rk l n)&&lY (rk l n))||_)=true;rw [hc,hbu]; simp
   unfold lJ;refine aS (fun hf2=>?_) (fun hf2=>hj3 (by unfold cH; rw [hf2]; rfl));cases hver:((bj x.B.s (rk l n)).1.u==x.B.r) with
   | true =>
    refine aq ⟨PV.refl hx hvi he,?_⟩;unfold ot cH;rw [hf2,show (bj x.B.s (rk l n)).1.u=x.B.r by simpa using hver];simp
   | false=>exact hj3 (by unfold cH; rw [show decide ((bj x.B.s (rk l n)).1.u=x.B.r)=false by simpa using hver,Bool.and_false])
end
end
section
open Go.Lib hiding intOf
abbrev LD (_:ae):Prop:=False
section
variable {l:List aL} {V:Nat->ByteArray} {H:Int->ae->ByteArray} {b:ap}
theorem VI.inB {P:ae->Prop} (h:VI l H b P):inB b=H b.r:=funext h.now
structure N1 (l:List aL) (H:Int->ae->ByteArray) (b:ap) (goals:List ae) (y:ap×(List ae)×Int):Prop where
 lv:Qn l b y.1
 e0:y.2.2=0
 vi:VI l H y.1 LD
 there:∀ k∈goals,(∃ c,k=bO c)∨cH y.1 k=true
 ran:∀ k∈y.2.1,cH b k=false
 few:y.2.1.length<=8
 ver:ox b y.1
 fu:b.s=[]->mO y.1 LD
def VN (l:List aL) (H:Int->ae->ByteArray) (b0:ap) (goals:List ae) (k:Nat):Int×Int×(List be)×(List ar)×(List (ae×Bool))×(List ae)×Int×(List aL)×Int×(List be)×(List ar)×(List (ae×ByteArray))×(List (ae×(List ae)))->Prop
 | (i,rev,ins,recs,busy,ran,e,rules,srev,sins,srecs,memo,seen)=>i=(k:Int)/\PV l (Vd l (inB b0)) H b0 ⟨⟨l,b0,[],[]⟩,b0,[],[],0⟩ (LF rev ins recs busy ran e rules srev sins srecs memo seen)/\psi l (LF rev ins recs busy ran e rules srev sins srecs memo seen)<=8/\∀ j q,j<k->goals[j]? = some q->(∃ c,q=bO c)∨cH (ap.mk rev ins recs) q=true
def VO (l:List aL) (H:Int->ae->ByteArray) (b0:ap) (goals:List ae):Int×(List be)×(List ar)×(List (ae×Bool))×(List ae)×Int×(List aL)×Int×(List be)×(List ar)×(List (ae×ByteArray))×(List (ae×(List ae)))->Prop
 | (rev,ins,recs,busy,ran,e,rules,srev,sins,srecs,memo,seen)=>PV l (Vd l (inB b0)) H b0 ⟨⟨l,b0,[],[]⟩,b0,[],[],0⟩ (LF rev ins recs busy ran e rules srev sins srecs memo seen)/\psi l (LF rev ins recs busy ran e rules srev sins srecs memo seen)<=8/\∀ q∈goals,(∃ c,q=bO c)∨cH (ap.mk rev ins recs) q=true
theorem xr (C:bk l) (h:jo l b) (hv:VI l H b LD) {goals:List ae} (hg:∀ k∈goals,og l k) (hn:goals.length<=32):Ok (iD uu l b goals) (N1 l H b goals):=by
 have hl:=C.high;have hb0:=(h.rm hl).2.1;have hD:=An (inB b) C;have hcp:=FA (h.rm hl).1 hb0;have hV:Vd l (inB b)=Vd l (H b.r):=by rw [hv.inB]
 have hE0:GD l (Vd l (inB b)) b ⟨⟨l,b,[],[]⟩,b,[],[],0⟩:=⟨⟨rfl,rfl,fun n _ v e=>(by cases e),fun c=>rfl⟩,h,rfl,rfl,sA⟩;unfold iD;rw [hcp,al,Og C h hg hn,al];simp only [show ((0:Int) != 0)=false from rfl,cond_false];refine aX (v:=aA.mk l b [] []) rfl ?_;rw [hcp,al];unfold n4;refine bL (VN l H b goals) (VO l H b goals) goals.length ?_ ?_ ?_
 ·refine⟨rfl,PV.refl hE0 (hv.weak fun _ _ hp _=>hp.elim) rfl,?_,fun j q hj=>absurd hj (by omega)⟩;have:=xI (fun n=>!cH b (rk l n)||cI [] (rk l n)) l.length;show 0+Bd (fun n=>!cH b (rk l n)||cI [] (rk l n)) l.length<=8;omega
 ·rintro k ⟨i,rev,ins,recs,busy,ran,e,rules,srev,sins,srecs,memo,seen⟩ O ⟨rfl,h1,h2,h3⟩;dsimp only;unfold n5;have hbz:∀ q,cI busy q=false:=fun q=>h1.post.busy q;refine aS (fun hlt=>?_) (fun hlt=>aq ⟨h1,h2,fun q hq=>?_⟩)
  ·have hlt:k<goals.length:=by have:=of_decide_eq_true hlt; omega
   have hnb:=xI (fun n=>!cI busy (rk l n)) l.length;refine aX (bB hlt) (aP (NG C hD hb0 hV 40 _ _ h1.post.ok h2 (hg _ (dG hlt)) (show Bd (fun n=>!cI busy (rk l n)) l.length<40 by omega) h1.vi h1.e0 (fun n _ _ m _ hb=>by
    have hb:cI busy (rk l m)=true:=hb;rw [hbz] at hb; cases hb)) fun x' ⟨g1,g2⟩=>?_)
   refine aq ⟨hlt,cy (by omega),h1.trans hE0 g1,du g1.post.psi h2,fun j q hj hq=>?_⟩;show _∨cH x'.B q=true;rcases e9 j k with hj1 | hj1
   ·exact (h3 j q hj1 hq).imp id fun e=>g1.st.ver _ e
   ·obtain rfl:j=k:=by omega
    have e:goals[j]=q:=by rw [bh hlt] at hq; exact bJ hq
    rcases Js g1.post.ok.base (hg _ (dG hlt)) g2 with h | h | h
    ·exact .inl (e▸h)
    ·exact .inr (e▸h)
    ·have:=h.1;rw [g1.post.busy] at this;have this:cI busy goals[j]=true:=this;rw [hbz] at this; cases this
  ·obtain⟨j,hj⟩:=dt.1 hq;have hlt:¬ (k:Int)<(goals.length:Int):=of_decide_eq_false hlt;exact h3 j q (by have:=aU hj; omega) hj
 ·rintro⟨rev,ins,recs,busy,ran,e,rules,srev,sins,srecs,memo,seen⟩ ⟨h1,h2,h3⟩;dsimp only;unfold k8;have he:e=0:=h1.e0;refine aS (fun h0=>absurd h0 (by rw [he]; simp)) (fun _=>?_);have hr:ran.length<=8:=by
   have h2:ran.length+_<=8:=h2;omega
  obtain⟨m,hm,hm2⟩:=yr (l:=ran) (by unfold Rm; omega);refine aX hm (aq ⟨⟨h1.post.ok.base,h1.post.ok.rev,h1.post.ok.ins⟩,rfl,?_,h3,fun q hq=>?_,by have:=hm2.len; show m.length<=8; omega,h1.st.ver,fun h0=>(h1.fu fun m hm=>absurd (show m∈b.s from hm) (by rw [h0]; exact cF)).weak fun k O=>(by have:=O.1; rw [h1.post.busy] at this; cases this)⟩)
  ·refine h1.vi.weak fun q _ hq _=>?_;have:=hq.1;rw [h1.post.busy] at this;cases this
  ·rcases h1.rn q ((hm2.mem q).1 hq) with hh | hh
   ·cases hh
   ·exact hh
end
end
section
open Go.Lib hiding intOf
section
variable {l:List aL} {V:Nat->ByteArray} {H:Int->ae->ByteArray} {b b' b0:ap} {P P':ae->Prop}
end
end
section
open Go.Lib hiding intOf
section
variable {l:List aL} {V:Nat->ByteArray} {H:Int->ae->ByteArray} {b0 b:ap}
end
end
section
open Go.Lib hiding intOf
def LA (l:List aL) (b:ap):Prop:=∃ H,VI l H b LD
def BE (ins0:List be) (rev:Int) (ins:List be):Prop:=∀ k,mX ⟨0,ins,[]⟩ k=mX ⟨0,ins0,[]⟩ k∨(mX ⟨0,ins,[]⟩ k).l=rev+1
theorem CH {ins:List be} (h:y7 ins) {x:be} (hx:x∈ins):mX ⟨0,ins,[]⟩ x.b=x:=by
 unfold mX;dsimp only;cases hf:ins.find? (fun y=>fa y.b x.b) with
 | none=>exact absurd (fc.2 rfl) (DK.1 hf x hx)
 | some y =>
  have h1:=List.find?_some hf;exact LX h (Gk hf) hx (fc.1 h1)
theorem ED {ins:List be} {k:ae} (h:∀ x∈ins,x.b≠k):mX ⟨0,ins,[]⟩ k=⟨k,⟨#[]⟩,0⟩:=by
 unfold mX;dsimp only;rw [DK.2 fun x hx e=>h x hx (fc.1 e)]
theorem BE.refl (ins:List be) (rev:Int):BE ins rev ins:=fun _=>.inl rfl
theorem BE.put {ins0 ins:List be} {rev:Int} (h:BE ins0 rev ins) (ha:y7 ins) {x:be} (hx:x.l=rev+1):BE ins0 rev (wH ins x):=fun k=>by
 have hp:=HZ ha x;by_cases O:k=x.b
 ·subst O;rw [CH hp (zL.2 (.inl rfl))];exact .inr hx
 ·have e:mX ⟨0,wH ins x,[]⟩ k=mX ⟨0,ins,[]⟩ k:=by
   by_cases hy:∃ y∈ins,y.b=k
   ·obtain⟨y,hy,rfl⟩:=hy;rw [CH hp (zL.2 (.inr ⟨hy,O⟩)),CH ha hy]
   ·rw [ED fun y hm e=>hy ⟨y,hm,e⟩,ED fun y hm e=>?_];rcases zL.1 hm with rfl | ⟨hm,_⟩
    ·exact O e.symm
    ·exact hy ⟨y,hm,e⟩
  rw [e]; exact h k
section
variable {l:List aL} {V:Nat->ByteArray} {H:Int->ae->ByteArray} {b:ap}
theorem LA.rise (hh:LA l b) (hB:jo l b) {ins:List be} (hV:BE b.i b.r ins):LA l ⟨b.r+1,ins,b.s⟩:=by
 obtain⟨H,h⟩:=hh;have hlo:∀ r,r<=b.r->(fun k=>if r<=b.r then H r k else (mX ⟨0,ins,[]⟩ k).t)=H r:=fun r hr=>funext fun k=>if_pos hr;refine⟨fun r k=>if r<=b.r then H r k else (mX ⟨0,ins,[]⟩ k).t,?_,?_,?_,?_⟩
 ·intro k;show _=if b.r+1<=b.r then _ else _;rw [if_neg (by omega)]; rfl
 ·intro k r h1 h2;have h2:r<=b.r+1:=h2;show (if r<=b.r then H r k else _)=if b.r+1<=b.r then _ else _;rw [if_neg (show ¬ b.r+1<=b.r by omega)];by_cases hr:r<=b.r
  ·rw [if_pos hr];rcases hV k with e | e
   ·have h1:(mX ⟨0,ins,[]⟩ k).l<=r:=h1;rw [e] at h1 ⊢;have h3:=h.past k r h1 hr;rw [h3]; exact (h.now k).symm
   ·have h1:(mX ⟨0,ins,[]⟩ k).l<=r:=h1;omega
  ·rw [if_neg hr]
 ·intro m hm n r hn O;have:=(hB.recs m hm).high;rw [hlo _ this];exact h.recv m hm n r hn O
 ·intro m hm x hx hmx;have:=(hB.recs m hm).high;rw [hlo _ this];rcases h.link m hm x hx hmx with h1 | ⟨_,h2,_⟩
  ·exact .inl h1
  ·exact h2.elim
theorem LA.sub (hh:LA l b) {recs:List ar} (h:∀ m∈recs,m∈b.s):LA l ⟨b.r,b.i,recs⟩:=by
 obtain⟨H,hv⟩:=hh;exact⟨H,hv.of fun m hm=>⟨m,h m hm,rfl,rfl,rfl,rfl,rfl⟩⟩
theorem Ba (C:bk l) (h:jo l b) (hh:LA l b) (hr:b.r+1<=1000000) {cs:List ci} (hc:∀ c∈cs,LH c) (hn:cs.length<=32):Ok (iB b cs) fun y=>jo l y.1/\y.1.r<=b.r+1/\LA l y.1/\y.1.s=b.s:=by
 have hl:=C.high;have hcp:=FA (h.rm hl).1 (h.rm hl).2.1;have hrev:=h.rev;have hw:IntKind.i64.wrap (b.r+1)=b.r+1:=ki (by omega) (by omega);unfold iB;refine aX hcp (aX (Gg h hl) ?_);rw [decide_eq_false (by omega)];simp only [eE,cond_false];refine aX (dX (r:=Fl.go ()) cs.length (fun k O=>?_) ?_) ?_
 ·obtain⟨n,hn,e⟩:=(hc _ (dG O)).key;unfold hU;rw [dlt O,cond_true,bB O,al,e,vC (by omega),al];simp only [eE,cond_false];rw [mS,al,cy (by omega)]; rfl
 ·unfold hU;rw [bZ]; rfl
 show Ok (hR cs b) _;unfold hR;refine aX (dX (r:=Fl.go ()) cs.length (fun k O=>?_) ?_) ?_
 ·have:=(hc _ (dG O)).value;unfold hS;rw [dlt O,cond_true,bB O,al,decide_eq_false (by omega),cy (by omega)]; rfl
 ·unfold hS;rw [bZ]; rfl
 show Ok (hO cs b) _;unfold hO;refine aX hcp ?_;refine bL (fun (k:Nat) (s:Bool×Int×List be)=>s.2.1=k/\y7 s.2.2/\(∀ x∈s.2.2,y8 (b.r+1) x)/\k<=cs.length/\BE b.i b.r s.2.2) (fun r=>y7 r.2/\(∀ x∈r.2,y8 (b.r+1) x)/\BE b.i b.r r.2) cs.length ⟨rfl,h.insA,fun x hx=>(h.ins x hx).le (by omega),cT _,BE.refl _ _⟩ ?_ ?_
 ·rintro k ⟨ch,g,ins⟩ O ⟨rfl,h1,h2,_,hV⟩;dsimp only at h1 h2 hV ⊢;unfold fF;refine aS (fun hlt=>?_) (fun _=>aq ⟨h1,h2,hV⟩);have hlt:k<cs.length:=by have:=of_decide_eq_true hlt; omega
  have hcO:=hc _ (dG hlt);refine aX (bB hlt) ?_;generalize cs[k]=c at hcO;rw [cy (by omega)];refine aX (vX (by omega)) ?_;have hd:(cs.drop (k+1)).length<=32:=by rw [sL]; omega
  have hj2:∀ ch' ins',y7 ins'->(∀ x∈ins',y8 (b.r+1) x)->BE b.i b.r ins'->Ok (jc (k:Int) ch' ins') fun y=>match y with
    | .go s=>k<cs.length/\(s.2.1=((k+1:Nat):Int)/\y7 s.2.2/\(∀ x∈s.2.2,y8 (b.r+1) x)/\k+1<=cs.length/\BE b.i b.r s.2.2)
    | .out r=>y7 r.2/\(∀ x∈r.2,y8 (b.r+1) x)/\BE b.i b.r r.2:=fun ch' ins' q1 q2 q3=>aq ⟨hlt,cy (by omega),q1,q2,hlt,q3⟩
  refine bL (fun (i:Nat) (s:Bool×Int)=>s.2=i/\i<=(cs.drop (k+1)).length) (fun _=>True) (cs.drop (k+1)).length ⟨rfl,cT _⟩ ?_ ?_
  ·rintro i ⟨la,q⟩ hi ⟨rfl,_⟩;dsimp only;unfold l5;refine aS (fun hlt2=>?_) (fun _=>aq trivial);have hlt2:i<(cs.drop (k+1)).length:=by have:=of_decide_eq_true hlt2; omega
   refine aX (bB hlt2) (aS (fun _=>aq ⟨hlt2,cy (by omega),hlt2⟩) (fun _=>aq ⟨hlt2,cy (by omega),hlt2⟩))
  ·intro la _;unfold ni;refine aS (fun _=>(hj2 _ _ h1 h2 hV).mono fun y hy=>by cases y <;> exact hy) (fun _=>aX (Ht (h.rm hl).2.1 _) (aS (fun _=>(hj2 _ _ h1 h2 hV).mono fun y hy=>by cases y <;> exact hy) (fun _=>?_)));have hil:=JY h1 h2;have hput:=Ld (r:=be.mk c.b c.t (b.r+1)) h1 (by unfold Rm; omega) (u:=b) hw (k:Int);have hput2:((loop (fun s:(List be)×Bool×Int=>gw b ins c s.1 s.2.1 s.2.2) (([]:List be),false,0)).bind fun q=>fk b (k:Int) c q.1 q.2)=fj (k:Int) (wH ins (be.mk c.b c.t (b.r+1))):=hput;rw [hput2];unfold fj;exact (hj2 _ _ (HZ h1 _) (OX h2 ⟨hcO.key,hcO.value,by show 0<=b.r+1; omega,wC _⟩) (hV.put h1 rfl)).mono fun y hy=>by cases y <;> exact hy
 ·rintro⟨ch,ins⟩ ⟨h1,h2,hV⟩;dsimp only at h1 h2 hV ⊢;have hil:=JY h1 h2;unfold k6;rw [hw];refine aS (fun _=>aq ⟨h,by show b.r<=b.r+1; omega,hh,rfl⟩) (fun _=>?_);rw [decide_eq_false (by omega),decide_eq_false (by omega)];exact aq ⟨h.rise hr h1 h2,wC _,hh.rise h hV,rfl⟩
end
end
section
abbrev yB:BitVec 64:=0x42f0e1eba9ea3693#64
def fL (c:BitVec 64):BitVec 64:=(c <<< 1) ^^^ (if c.msb=true then yB else 0#64)
def uV (c:BitVec 64) (b:Bool):BitVec 64:=(c <<< 1) ^^^ (if (c.msb != b)=true then yB else 0#64)
theorem Be (a b:BitVec 64) (n:Nat):(a ^^^ b) <<< n=(a <<< n) ^^^ (b <<< n):=by
 apply E7;intro i hi;simp only [Bx,Is];cases decide (i<64) <;> cases decide (i<n) <;> simp
theorem FC (y w:BitVec 64) (k:Nat):fL (y ^^^ (w <<< k))=uV y (w <<< k).msb ^^^ (w <<< (k+1)):=by
 unfold fL uV;rw [Be,BitVec.msb_xor,Ky];rw [By,By,BitVec.xor_comm ((w <<< k) <<< 1)]
theorem zD (a b:BitVec 64):fL (a ^^^ b)=fL a ^^^ fL b:=by
 unfold fL;rw [Be,BitVec.msb_xor];apply E7;intro i hi;generalize a <<< 1=x;generalize b <<< 1=y;cases a.msb <;> cases b.msb <;> simp only [Is,Bool.xor_false,Bool.false_xor,Bool.xor_self,Bool.xor_true,mL,if_true,if_false,DG,BitVec.getLsbD_zero]
 ·cases x.getLsbD i <;> cases y.getLsbD i <;> cases yB.getLsbD i <;> rfl
 ·cases x.getLsbD i <;> cases y.getLsbD i <;> cases yB.getLsbD i <;> rfl
 ·cases x.getLsbD i <;> cases y.getLsbD i <;> cases yB.getLsbD i <;> rfl
theorem D2 {z:BitVec 64} (h:fL z=0#64):z=0#64:=by
 unfold fL at h;cases hm:z.msb with
 | true =>
  rw [hm,if_pos rfl] at h;have h0:=congrArg (fun v:BitVec 64=>v.getLsbD 0) h;simp [Is,Bx] at h0;exact absurd h0 (by decide)
 | false =>
  rw [hm,if_neg (by simp),E8] at h;apply E7;intro i hi;by_cases h63:i=63
  ·subst h63;rw [NR] at hm;simpa using hm
  ·have h0:=congrArg (fun v:BitVec 64=>v.getLsbD (i+1)) h;simp [Bx] at h0;have:=h0 (by omega);simpa using this
theorem FB {a b:BitVec 64} (h:fL a=fL b):a=b:=by
 have h1:fL (a ^^^ b)=0#64:=by rw [zD,h,Kz]
 have h2:=D2 h1;exact BitVec.xor_eq_zero_iff.1 h2
def cx:Nat->BitVec 64->BitVec 64
 | 0,c=>c
 | n+1,c=>cx n (fL c)
theorem yi:∀ n a b,cx n (a ^^^ b)=cx n a ^^^ cx n b
 | 0,_,_=>rfl
 | n+1,a,b=>by show cx n (fL _)=_; rw [zD,yi n]; rfl
theorem yg:∀ n {a b},cx n a=cx n b->a=b
 | 0,_,_,h=>h
 | n+1,_,_,h=>FB (yg n h)
theorem uD:∀ n m c,cx (n+m) c=cx m (cx n c)
 | 0,m,c=>by rw [kj]; rfl
 | n+1,m,c=>by rw [Nat.succ_add]; exact uD n m (fL c)
theorem yh:∀ n (z:BitVec 64),(∀ i,64-n<=i->i<64->z.getLsbD i=false)->n<=64->cx n z=z <<< n
 | 0,z,_,_=>by simp [cx]
 | n+1,z,h,hn=>by
  have hm:z.msb=false:=by rw [NR]; exact h 63 (by omega) (by omega)
  have e:fL z=z <<< 1:=by unfold fL; rw [hm,if_neg (by simp),E8]
  show cx n (fL z)=_;rw [e,yh n (z <<< 1) (fun i h1 h2=>by
   rw [Bx];by_cases hi:i<1
   ·simp [hi]
   ·rw [h (i-1) (by omega) (by omega)]; simp) (by omega)]
  rw [DA,Ky]
abbrev gS (b:UInt8):BitVec 64:=BitVec.ofNat 64 b.toNat
def fb (c:BitVec 64):List UInt8->BitVec 64
 | []=>c
 | b::l=>fb (cx 8 (c ^^^ (gS b <<< 56))) l
def eS:List UInt8->BitVec 64
 | []=>0#64
 | b::l=>(gS b <<< 56) ^^^ (eS l >>> 8)
theorem Ct (b:UInt8) {i:Nat} (h:8<=i):(gS b).getLsbD i=false:=by
 rw [BitVec.getLsbD_ofNat];have:b.toNat.testBit i=false:=DE (uP b.toNat_lt (by have:=DC (n:=2) (by omega) h; simpa using this));simp [this]
theorem sO:∀ (l:List UInt8),l.length<=8->∀ i,i<64-8*l.length->(eS l).getLsbD i=false
 | [],_,i,_=>by simp [eS]
 | b::l,h,i,hi=>by
  rw [dx] at h hi;show ((gS b <<< 56) ^^^ (eS l >>> 8)).getLsbD i=false;rw [Is,Bx,Ir];rw [sO l (by omega) (8+i) (by omega)];simp;intro _ _;omega
theorem vE:∀ (l:List UInt8) (c:BitVec 64),l.length<=8->fb c l=cx (8*l.length) (c ^^^ eS l)
 | [],c,_=>by simp [fb,eS,cx]
 | b::l,c,h=>by
  rw [dx] at h;show fb (cx 8 (c ^^^ (gS b <<< 56))) l=_;rw [vE l _ (by omega),dx,show 8*(l.length+1)=8+8*l.length by omega,uD];congr 1;show _=cx 8 (c ^^^ ((gS b <<< 56) ^^^ (eS l >>> 8)));rw [<- By,yi 8 (c ^^^ _)];congr 1;have hz:∀ i,64-8<=i->i<64->(eS l >>> 8).getLsbD i=false:=fun i h1 h2=>by
   rw [Ir];exact BitVec.getLsbD_of_ge _ _ (by omega)
  rw [yh 8 _ hz (by omega)];apply E7;intro i hi;rw [Bx,Ir];by_cases h8:i<8
  ·rw [sO l (by omega) i (by omega)]; simp [h8]
  ·rw [show 8+(i-8)=i by omega]; simp [h8,hi]
theorem zC:∀ (a b:List UInt8),a.length=b.length->a.length<=8->eS a=eS b->a=b
 | [],[],_,_,_=>rfl
 | x::a,y::b,h,h8,e=>by
  rw [dx] at h8;rw [dx,dx] at h;have e:(gS x <<< 56) ^^^ (eS a >>> 8)=(gS y <<< 56) ^^^ (eS b >>> 8):=e;have hx:x=y:=by
   have:∀ i,i<8->(gS x).getLsbD i=(gS y).getLsbD i:=fun i hi=>by
    have h0:=congrArg (fun v:BitVec 64=>v.getLsbD (56+i)) e;simp only [Is,Bx,Ir] at h0;rw [BitVec.getLsbD_of_ge (eS a) _ (by omega),BitVec.getLsbD_of_ge (eS b) _ (by omega)] at h0;rw [show 56+i-56=i by omega] at h0;simpa [show 56+i<64 by omega,show ¬ 56+i<56 by omega] using h0
   have hb:gS x=gS y:=E7 fun i hi=>by
    rcases e9 i 8 with h | h
    ·exact this i h
    ·rw [Ct x h,Ct y h]
   have:=congrArg BitVec.toNat hb;simp only [BitVec.toNat_ofNat] at this;have h1:=x.toNat_lt; have h2:=y.toNat_lt;rw [DB (by omega),DB (by omega)] at this;exact UInt8.toNat_inj.1 this
  subst hx;have e2:eS a >>> 8=eS b >>> 8:=by
   have:=congrArg (fun v=>(gS x <<< 56) ^^^ v) e;simpa [<- By] using this
  have e3:eS a=eS b:=E7 fun i hi=>by
   rcases e9 i 8 with h9 | h9
   ·rw [sO a (by omega) i (by omega),sO b (by omega) i (by omega)]
   ·have h0:=congrArg (fun v:BitVec 64=>v.getLsbD (i-8)) e2;simp only [Ir] at h0;rwa [show 8+(i-8)=i by omega] at h0
  rw [zC a b (by omega) (by omega) e3]
theorem He {a b:List UInt8} (h:a.length=b.length) (h8:a.length<=8) {c:BitVec 64} (e:fb c a=fb c b):a=b:=by
 rw [vE a c h8,vE b c (by omega),<- h] at e;have e2:=yg _ e;have e3:eS a=eS b:=by
  have:=congrArg (fun v=>c ^^^ v) e2;simpa [<- By] using this
 exact zC a b h h8 e3
end
section
open Go.Lib hiding intOf
abbrev x6 (v:BitVec 64):Int:=(v.toNat:Int)
theorem wz {n:Nat} (h:n<18446744073709551616):IntKind.u64.wrap (n:Int)=(n:Int):=by
 simp [IntKind.wrap,IntKind.bits,IntKind.signed]; omega
theorem Ri (n:Nat):IntKind.u64.wrap (n:Int)=((n % 18446744073709551616:Nat):Int):=by
 simp [IntKind.wrap,IntKind.bits,IntKind.signed]
theorem NN (a b:BitVec 64):w8 .xor .u64 (x6 a) (x6 b)=x6 (a ^^^ b):=by
 unfold w8;show IntKind.u64.wrap ((BitVec.ofInt 64 (a.toNat:Int) ^^^ BitVec.ofInt 64 (b.toNat:Int)).toNat:Int)=_;rw [BitVec.ofInt_natCast,BitVec.ofInt_natCast,BitVec.ofNat_toNat,BitVec.ofNat_toNat,BitVec.setWidth_eq,BitVec.setWidth_eq,wz (a ^^^ b).isLt]
theorem Nt (a:BitVec 64) (n:Nat) (hn:n<=64):AT .u64 (x6 a) (n:Int)=x6 (a <<< n):=by
 unfold AT;have e:(x6 a)*2 ^ (min ((n:Int)).toNat (IntKind.u64.bits))=((a.toNat*2 ^ n:Nat):Int):=by
  rw [gP,show min n (IntKind.u64.bits)=n from A4 hn]
  push_cast
  rfl
 rw [e,Ri];show _=(((a <<< n).toNat:Nat):Int);rw [BitVec.toNat_shiftLeft,Nat.shiftLeft_eq]
theorem P9 (a:BitVec 64):cS .u64 (x6 a) 63=if a.msb=true then 1 else 0:=by
 unfold cS;have e:(2:Int) ^ (min ((63:Int)).toNat (IntKind.u64.bits))=9223372036854775808:=by decide
 rw [e,NS _ (by omega)];have h:=a.isLt;rw [BitVec.msb_eq_decide];show (a.toNat:Int) / 9223372036854775808=if decide (2 ^ 63<=a.toNat)=true then 1 else 0;by_cases h2:2 ^ 63<=a.toNat
 ·rw [decide_eq_true h2,if_pos rfl]; omega
 ·rw [decide_eq_false h2,if_neg (by simp)]; omega
theorem Dj (n:Nat) (c:BitVec 64):cx (n+1) c=fL (cx n c):=uD n 1 c
theorem Df:∀ (l:List UInt8) (c:BitVec 64) (b:UInt8),fb c (l++[b])=cx 8 (fb c l ^^^ (gS b <<< 56))
 | [],_,_=>rfl
 | x::l,c,b=>Df l _ b
theorem Qy (b:UInt8):IntKind.u64.wrap (b.toNat:Int)=x6 (gS b):=by
 have h:=b.toNat_lt;rw [wz (by omega)];show _=(((BitVec.ofNat 64 b.toNat).toNat:Nat):Int);rw [BitVec.toNat_ofNat,DB (by omega)]
abbrev c0:BitVec 64:=BitVec.ofNat 64 18446744073709551615
def uQ (s:ByteArray):aE:=⟨(s.size:Int),x6 (fb c0 s.toList)⟩
theorem AW (s:ByteArray):s.toList.length=s.size:=by rw [ByteArray.toList_eq,Array.length_toList]; rfl
theorem VX (c:BitVec 64):IntKind.u64.wrap ((cS .u64 (x6 c) 63)*4823603603198064275)=x6 (if c.msb=true then yB else 0#64):=by
 rw [P9];cases c.msb <;> rfl
theorem Mx (c:BitVec 64):loop (fun s:Int×Int=>nP s.1 s.2) (x6 c,0)=some (x6 (cx 8 c)):=by
 refine o7 (B:=fun s:Int×Int=>nP s.1 s.2) (fun k=>(x6 (cx k c),(k:Int))) 8 rfl (fun k O=>?_) ?_
 ·dsimp only;unfold nP;rw [decide_eq_true (by omega),cond_true,VX,show AT .u64 (x6 (cx k c)) 1=x6 (cx k c <<< 1) from Nt _ 1 (by omega),NN,cy (by omega),Dj];rfl
 ·rfl
theorem FI {s:ByteArray} (h:s.size<=140000000000000):pG s=some (uQ s):=by
 have hl:=AW s;unfold pG;rw [show loop (fun t:Int×Int=>nQ s t.1 t.2) (18446744073709551615,0)=some (x6 (fb c0 s.toList)) from
  eh (xs:=s.toList) (fun n=>(x6 (fb c0 (s.toList.take n)),(n:Int))) rfl (fun n b hx=>by
   have hn:=aU hx;dsimp only;unfold nQ;rw [decide_eq_true (show (n:Int)<(s.size:Int) by omega),cond_true,aV,hx,al,Qy,show AT .u64 (x6 (gS b)) 56=x6 (gS b <<< 56) from Nt _ 56 (by omega),NN,Mx,al];unfold sP;rw [cy (by omega),bI hx,Df]) (by
   dsimp only;unfold nQ;rw [hl,decide_eq_false (by omega),cond_false,<- hl,f9]),al]
 rfl
theorem Qw:∀ (x:Fin 256) (j:Fin 8),IntKind.u64.wrap (w8 .and .u8 (cS .u8 ((x.val:Nat):Int) (IntKind.u64.wrap (7-((j.val:Nat):Int)))) 1)=if x.val.testBit (7-j.val)=true then 1 else 0:=by decide +kernel
theorem Kn (b:UInt8) {j:Nat} (hj:j<8):((gS b <<< 56) <<< j).msb=b.toNat.testBit (7-j):=by
 rw [<- Ky,NR,Bx,BitVec.getLsbD_ofNat];rw [decide_eq_true (show 64-1<64 by omega),decide_eq_false (show ¬ 64-1<56+j by omega),decide_eq_true (show 64-1-(56+j)<64 by omega),show 64-1-(56+j)=7-j by omega];simp
def ys (c w:BitVec 64) (j:Nat):BitVec 64:=cx j (c ^^^ w) ^^^ (w <<< j)
theorem Pn (c w:BitVec 64):ys c w 0=c:=by
 unfold ys;show (c ^^^ w) ^^^ (w <<< 0)=c;rw [BitVec.shiftLeft_zero,By,Kz,E8]
theorem Pm (c w:BitVec 64) (j:Nat):ys c w (j+1)=uV (ys c w j) (w <<< j).msb:=by
 have e:cx j (c ^^^ w)=ys c w j ^^^ (w <<< j):=by
  unfold ys;rw [By,Kz,E8]
 conv=>lhs; unfold ys
 rw [Dj,e,FC,By,Kz,E8]
theorem Rr (c:BitVec 64) (b:UInt8):ys c (gS b <<< 56) 8=cx 8 (c ^^^ (gS b <<< 56)):=by
 unfold ys;rw [<- Ky];have:(gS b) <<< (56+8)=0#64:=BitVec.shiftLeft_eq_zero (by omega);rw [this,E8]
theorem RX (r:BitVec 64) (t:Bool):(bif (cS .u64 (x6 r) 63:Int) != (if t=true then 1 else 0) then w8 .xor .u64 (AT .u64 (x6 r) 1) 4823603603198064275 else AT .u64 (x6 r) 1)=x6 (uV r t):=by
 rw [P9,show AT .u64 (x6 r) 1=x6 (r <<< 1) from Nt r 1 (by omega),show (4823603603198064275:Int)=x6 yB from rfl,NN];unfold uV;cases r.msb <;> cases t <;> simp
theorem H2 {s:ByteArray} {n:Nat} {b:UInt8} (hb:s.toList[n]? = some b) (c:BitVec 64):loop (fun t:Int×Int=>nc s (n:Int) t.1 t.2) (x6 c,7)=some (x6 (cx 8 (c ^^^ (gS b <<< 56)))):=by
 rw [<- Rr];refine o7 (B:=fun t:Int×Int=>nc s (n:Int) t.1 t.2) (fun k=>(x6 (ys c (gS b <<< 56) k),7-(k:Int))) 8 (by rw [Pn]; rfl) (fun k O=>?_) ?_
 ·dsimp only;unfold nc;have h256:=b.toNat_lt;have hbit:=Qw ⟨b.toNat,by omega⟩ ⟨k,O⟩;dsimp only at hbit;rw [decide_eq_true (show (0:Int)<=7-(k:Int) by omega),cond_true,aV,hb,al,hbit];have hw:(decide (0<=IntKind.u64.wrap (7-(k:Int))))=true:=by
   rw [show (7-(k:Int))=((7-k:Nat):Int) by omega,wz (by omega)];exact decide_eq_true (by omega)
  rw [hw];have e:=RX (ys c (gS b <<< 56) k) (b.toNat.testBit (7-k));rw [<- Kn b O,<- Pm,Kn b O] at e;have hw2:IntKind.i64.wrap (7-(k:Int)-1)=7-((k+1:Nat):Int):=by rw [ki (by omega) (by omega)]; omega
  show cond _ _ _=_;unfold sf;rw [hw2,<- e];cases ((cS .u64 (x6 (ys c (gS b <<< 56) k)) 63:Int) != (if b.toNat.testBit (7-k)=true then 1 else 0)) <;> rfl
 ·dsimp only;unfold nc;rfl
theorem AN {s:ByteArray} (h:s.size<=140000000000000):ve s=some (uQ s):=by
 have hl:=AW s;unfold ve;rw [show loop (fun t:Int×Int=>pQ s t.1 t.2) (18446744073709551615,0)=some (x6 (fb c0 s.toList)) from
  eh (xs:=s.toList) (fun n=>(x6 (fb c0 (s.toList.take n)),(n:Int))) rfl (fun n b hx=>by
   have hn:=aU hx;dsimp only;unfold pQ;rw [decide_eq_true (show (n:Int)<(s.size:Int) by omega),cond_true,H2 hx,al];unfold uk;rw [cy (by omega),bI hx,Df]) (by
   dsimp only;unfold pQ;rw [hl,decide_eq_false (by omega),cond_false,<- hl,f9]),al]
 rfl
theorem Ov {s t:ByteArray} (hs:s.size<=8) (h:uQ s=uQ t):s=t:=by
 have h1:(s.size:Int)=(t.size:Int):=congrArg aE.o h;have h2:((fb c0 s.toList).toNat:Int)=((fb c0 t.toList).toNat:Int):=congrArg aE.p h;have h3:fb c0 s.toList=fb c0 t.toList:=BitVec.eq_of_toNat_eq (by omega);have h4:=He (a:=s.toList) (b:=t.toList) (by rw [AW,AW]; omega) (by rw [AW]; exact hs) h3;rw [ByteArray.toList_eq,ByteArray.toList_eq] at h4;exact Fc (Dx.1 h4)
end
section
open Go.Lib hiding intOf
structure iR (l:List aL) (x:ac):Prop where
 cost:1<=x.a/\x.a<=30000
 right:∃ (inp:ae->ByteArray) (n:Nat) (r:aL),(∀ k,(inp k).size<=8)/\l[n]? = some r/\x.b=rk l n/\x.t=Vd l inp n/\x.v=(kT l inp (Vd l inp) r r.c.length).map fun k=>⟨k,uQ (vK l inp k)⟩
theorem FP {n:Nat} (h:n<65536):(cV (n:Int)).size<=8:=by
 have h1:(cV n).size=(itoa n).length:=by simp [cV,ByteArray.size]
 have:=zE n 5 (by omega);rw [h1,oJ]; omega
section
variable {l:List aL} {inp:ae->ByteArray}
theorem RN (C:bk l) {n:Nat} (hn:n<l.length):(Vd l inp n).size<=8:=by
 have h:=bh hn;have ha:=(C.each n _ h).asks;obtain⟨m,e,hm⟩:=yD C h (ls:=eW l inp (Vd l inp) l[n] l[n].c.length) (by rw [wO (bx _)]; omega);rw [CF C h,e];exact FP hm
theorem Vp (C:bk l) (hi:∀ k,(inp k).size<=8) {k:ae} (O:og l k):(vK l inp k).size<=8:=by
 have hl:=C.high;rcases O with⟨c,_,rfl⟩|⟨n,hn,rfl⟩
 ·rw [ur]; exact hi _
 ·rw [yu (by omega)]; exact RN C hn
theorem OY (C:bk l) {n:Nat} {r:aL} (h:l[n]? = some r) {V:Nat->ByteArray} {j:Nat} {k:ae} (O:k∈kT l inp V r j):og l k:=by
 rcases tc C h O with⟨c,h1,h2⟩|⟨i,h1,h2,h3⟩
 ·exact .inl ⟨c,h1,h2⟩
 ·exact .inr ⟨i,h2,h3⟩
end
section
variable {l:List aL} {b:ap} {H:Int->ae->ByteArray} {P:ae->Prop}
theorem jo.in8 (hB:jo l b) (k:ae):(inB b k).size<=8:=by
 show (mX b k).t.size<=8;unfold mX;cases hf:b.i.find? (fun x=>fa x.b k) with
 | none=>exact cT _
 | some x=>exact (hB.ins x (Gk hf)).value
noncomputable def P1 (b:ap) (k:ae):Bool:=decide (k.k=30)||cH b k
noncomputable def P2 (b:ap) (k:ae):ByteArray:=if k.k=30 then inB b k else (bj b.s k).1.t
theorem OK {c:Nat}:P1 b (bO c)=true:=by
 unfold P1;rw [show (bO c).k=30 from rfl]; rfl
theorem P3 {n:Nat}:P1 b (rk l n)=cH b (rk l n):=by
 unfold P1;rw [decide_eq_false zY,E9]
theorem MH (hl:l.length<=8) (hB:jo l b) {k:ae} (O:og l k):ss b k=some (P2 b k,P1 b k):=by
 unfold ss P2;rcases O with⟨c,_,rfl⟩|⟨n,hn,rfl⟩
 ·rw [mS,al,cond_true,Ht (hB.rm hl).2.1,al,OK,if_pos (show (bO c).k=30 from rfl)]
 ·rw [oW,al,cond_false,hB.find hl,al,P3,if_neg zY];unfold nA cH;cases h:(bj b.s (rk l n)).2 with
  | false=>rfl
  | true =>
   rw [cond_true,t6];congr 2
theorem MG (hl:l.length<=8) (hB:jo l b) (k:ae):(P2 b k).size<=1000:=by
 unfold P2;split
 ·have:=hB.in8 k; omega
 ·cases h:(bj b.s k).2 with
  | true=>exact (hB.found h).1.value
  | false=>rw [(rL h).1]; exact cT _
def N4 (l:List aL) (b:ap):Prop:=∀ m∈b.s,m.u=b.r->m.t=vK l (inB b) m.b
theorem VI.verR (C:bk l) (hB:jo l b) (h:VI l H b P):N4 l b:=fun m hm hv=>by
 rw [h.ver C hB hm hv];congr 1;exact (funext h.now).symm
theorem N4.kn (h:N4 l b) {k:ae} (O:og l k) (hn:P1 b k=true):P2 b k=vK l (inB b) k:=by
 unfold P2;rcases O with⟨c,_,rfl⟩|⟨n,_,rfl⟩
 ·rw [if_pos (show (bO c).k=30 from rfl),ur]
 ·rw [P3] at hn;unfold cH at hn;rw [lq,decide_eq_true_eq] at hn;obtain⟨h1,h2⟩:=cB hn.1;rw [if_neg zY,h _ h1 hn.2,h2]
theorem DY (C:bk l) (hB:jo l b) (hV:N4 l b) {m:ar} (hm:m∈b.s) {β:Type} {g:Bool×(List bM)->Option β} {R:β->Prop}
  (k:∀ r:Bool×(List bM),(r.1=true->m.u=b.r/\r.2=m.v.map fun k=>⟨k,uQ (vK l (inB b) k)⟩)->Ok (g r) R) :
  Ok ((loop (fun s:Bool×Int×(List bM)=>lf b m s.1 s.2.1 s.2.2) ((m.u:Int)==b.r,0,([]:List bM))).bind g) R:=by
 have hl:=C.high;have hm':=hB.recs m hm;have hrl:=hm'.reads;refine bL (fun (j:Nat) (s:Bool×Int×(List bM))=>s.2.1=j/\s.2.2.length=j/\(s.1=true->m.u=b.r/\s.2.2=(m.v.take j).map fun k=>⟨k,uQ (vK l (inB b) k)⟩)) (fun r=>r.1=true->m.u=b.r/\r.2=m.v.map fun k=>⟨k,uQ (vK l (inB b) k)⟩) m.v.length ⟨rfl,rfl,fun h=>⟨by simpa using h,rfl⟩⟩ ?_ k;rintro j ⟨a,i,xs⟩ hj ⟨rfl,h2,h3⟩;dsimp only at h2 h3 ⊢;unfold lf;refine aS (fun hlt=>?_) (fun hlt=>aq ?_)
 ·have hlt:j<m.v.length:=by have:=of_decide_eq_true hlt; omega
  have hg:=hm'.good _ (dG hlt);refine aX (bB hlt) (aX (MH hl hB hg) ?_);have hj4:∀ q:Bool,(q=true->a=true/\P1 b m.v[j]=true)->Ok (iP (j:Int) xs m.v[j] (P2 b m.v[j],P1 b m.v[j]) q) fun r=>match r with
    | .go s'=>j<m.v.length/\(s'.2.1=((j+1:Nat):Int)/\s'.2.2.length=j+1/\(s'.1=true->m.u=b.r/\s'.2.2=(m.v.take (j+1)).map fun k=>⟨k,uQ (vK l (inB b) k)⟩))
    | .out r=>r.1=true->m.u=b.r/\r.2=m.v.map fun k=>⟨k,uQ (vK l (inB b) k)⟩:=fun q hq=>by
   unfold iP;refine aX (AN (s:=P2 b m.v[j]) (by have:=MG hl hB m.v[j]; omega)) (cY (eZ (by simp; omega)) (aq ⟨hlt,cy (by omega),by simp [h2],fun hq1=>?_⟩));obtain⟨q1,q2⟩:=hq hq1;obtain⟨q3,q4⟩:=h3 q1;refine⟨q3,?_⟩;show xs++[_]=_;rw [q4,bI (bh hlt),wF,hV.kn hg q2]; rfl
  exact aS (fun ha=>(hj4 _ fun hq=>⟨ha,hq⟩).mono fun y hy=>by cases y <;> exact hy) (fun _=>(hj4 _ fun hq=>(by cases hq)).mono fun y hy=>by cases y <;> exact hy)
 ·intro ha;obtain⟨q3,q4⟩:=h3 ha;refine⟨q3,?_⟩;rw [sI (by have:=of_decide_eq_false hlt; omega)] at q4;exact q4
theorem IX (C:bk l) (hB:jo l b) (hh:VI l H b P):Ok (oU b) fun y=>y.length<=8/\∀ x∈y,iR l x:=by
 have hl:=C.high;have hnr:=hB.nrec;have hV:=hh.verR C hB;have hin:inB b=H b.r:=funext hh.now;unfold oU;refine bL (fun (j:Nat) (s:(List ac)×Int)=>s.2=j/\s.1.length<=j/\∀ x∈s.1,iR l x) (fun r=>r.length<=8/\∀ x∈r,iR l x) b.s.length ⟨rfl,bx _,fun x hx=>absurd hx cF⟩ ?_ (fun r hr=>aq hr);rintro j ⟨o,i⟩ hj ⟨rfl,h2,h3⟩;dsimp only at h2 h3 ⊢;unfold n7;refine aS (fun hlt=>?_) (fun _=>aq ⟨by show o.length<=8; omega,h3⟩);have hlt:j<b.s.length:=by have:=of_decide_eq_true hlt; omega
 have hm:=dG hlt;refine aX (bB hlt) (DY C hB hV hm fun r hr=>?_);unfold ld lc;refine aS (fun ha=>cY (eZ (by simp; omega)) (aq ⟨hlt,cy (by omega),by simp; omega,fun x hx=>?_⟩)) (fun _=>aq ⟨hlt,cy (by omega),by show o.length<=j+1; omega,h3⟩);rcases cM.1 hx with hx | hx
 ·exact h3 x hx
 ·obtain⟨q1,q2⟩:=hr ha;rw [cp.1 hx];have hm':=hB.recs _ hm;obtain⟨n,hn,e⟩:=hm'.key;obtain⟨e1,e2⟩:=hh.recv _ hm n _ (bh hn) e;rw [q1] at e1 e2;rw [<- hin] at e1 e2;exact⟨hm'.cost,inB b,n,l[n],hB.in8,bh hn,e,e1,by rw [<- e2]; exact q2⟩
end
end
section
open Go.Lib hiding intOf
section
variable {l:List aL} {x y:ac}
theorem iR.reads (C:bk l) (h:iR l x):x.v.length<=3/\∀ r∈x.v,og l r.b/\0<=r.h.o/\r.h.o<=8/\0<=r.h.p/\r.h.p<18446744073709551616:=by
 obtain⟨inp,n,r,hi,hn,e1,e2,e3⟩:=h.right;have ha:=(C.each n _ hn).asks;rw [e3];refine⟨by rw [iq,CY (bx _)]; omega,fun q hq=>?_⟩;obtain⟨k,O,rfl⟩:=cL.1 hq;have hg:=OY C hn O;have h8:=Vp C hi hg;have hlt:=(fb c0 (vK l inp k).toList).isLt;refine⟨hg,?_,?_,?_,?_⟩
 ·show (0:Int)<=((vK l inp k).size:Int); omega
 ·show ((vK l inp k).size:Int)<=8; omega
 ·show (0:Int)<=((fb c0 (vK l inp k).toList).toNat:Int); omega
 ·show ((fb c0 (vK l inp k).toList).toNat:Int)<18446744073709551616; omega
theorem iR.key (h:iR l x):∃ n,n<l.length/\x.b=rk l n:=by
 obtain⟨inp,n,r,hi,hn,e1,_⟩:=h.right;exact⟨n,aU hn,e1⟩
theorem iR.value (C:bk l) (h:iR l x):x.t.size<=8:=by
 obtain⟨inp,n,r,hi,hn,e1,e2,_⟩:=h.right;rw [e2]; exact RN C (aU hn)
theorem Er (C:bk l) (h:iR l x):da x=some true:=by
 have hl:=C.high;obtain⟨h1,h2⟩:=h.reads C;obtain⟨n,hn,e⟩:=h.key;have hv:=h.value C;have hc:=h.cost;unfold da;rw [dX (r:=Fl.go ()) x.v.length (fun k O=>by
  obtain⟨g1,g2,_⟩:=h2 _ (dG O);unfold cE;rw [dlt O,cond_true,bB O,al,g1.valid hl,al,eE,cond_false,decide_eq_false (by omega),cond_false,cy (by omega)]) (by
  unfold cE; rw [bZ]; rfl),al]
 show d7 x=_;unfold d7 cD;rw [e,C8 (by omega),oW,al,cond_true,al,mL,cond_true,decide_eq_true (by omega),decide_eq_true (by omega),decide_eq_true (by omega)]; rfl
theorem KU (C:bk l) (h:iR l x):lA x=some true:=by
 have hl:=C.high;obtain⟨h1,h2⟩:=h.reads C;obtain⟨n,hn,e⟩:=h.key;have hv:=h.value C;have hc:=h.cost;unfold lA;rw [dX (r:=Fl.go ()) x.v.length (fun k O=>by
  obtain⟨g1,g2,_⟩:=h2 _ (dG O);unfold eG;rw [dlt O,cond_true,bB O,al,g1.kvalid hl,al,eE,cond_false,decide_eq_false (by omega),cond_false,cy (by omega)]) (by
  unfold eG; rw [bZ]; rfl),al]
 show jC x=_;unfold jC eF;rw [e,xX (by omega),Av,oW,al,cond_true,al,mL,cond_true,decide_eq_true (by omega),decide_eq_true (by omega),decide_eq_true (by omega)]; rfl
theorem B8 (n:Int):Ok (gf n) fun s=>s.size=8:=by
 unfold gf;refine bL (fun (k:Nat) (s:(List Int)×Int)=>k<=8/\s.1.length=k/\s.2=56-8*k) (fun r=>r.length=8) 8 ⟨cT _,rfl,rfl⟩ ?_ (fun r hr=>?_)
 ·rintro k ⟨b,s⟩ O ⟨_,h1,rfl⟩;dsimp only at h1 ⊢;unfold fE;refine aS (fun h=>?_) (fun h=>aq ?_)
  ·have h:=of_decide_eq_true h;have hw:IntKind.u64.wrap (56-8*(k:Int))=56-8*(k:Int):=by
    rw [show 56-8*(k:Int)=((56-8*k:Nat):Int) by omega,wz (by omega)]
   refine cY (decide_eq_true (by rw [hw]; omega)) (cY (eZ (by simp; omega)) (aq ⟨by omega,by omega,by simp [h1],?_⟩));show IntKind.i64.wrap (56-8*(k:Int)-8)=56-8*((k+1:Nat):Int);rw [ki (by omega) (by omega)]; omega
  ·have:=of_decide_eq_false h;show b.length=8;omega
 ·unfold pd;refine aq ?_;unfold gg;simp [ByteArray.size,hr]
theorem MU (n:Int):Ok (jG n) fun s=>s.size=8:=by
 unfold jG;exact aP (B8 _) fun s hs=>aq hs
theorem nE {n:Nat} (h:n<=1000000):Nat.ble n 140737488355328=true:=wd (by omega)
theorem Nz {s:ByteArray} (h:s.size<=1000):Ok (pX s) fun y=>y.size=8+s.size:=by
 unfold pX;exact aP (B8 _) fun u hu=>cY (nE (by omega)) (aq (by rw [uw,hu]))
theorem xM (hl:l.length<=8) {k:ae} (h:og l k):k.x.size<=8:=by
 rcases h with⟨c,hc,rfl⟩|⟨n,hn,rfl⟩
 ·exact FP (n:=c) (by omega)
 ·exact FP (n:=n) (by omega)
theorem EH (hl:l.length<=8) {k:ae} (h:og l k):Ok (pW k) fun y=>y.size<=24:=by
 have:=xM hl h;unfold pW;refine aP (MU _) fun u hu=>aP (Nz (by omega)) fun v hv=>cY (nE (by omega)) (aq (by rw [uw]; omega))
theorem Ez (d:aE):Ok (lw d) fun y=>y.size=16:=by
 unfold lw;refine aP (B8 _) fun u hu=>aP (B8 _) fun v hv=>cY (nE (by omega)) (aq (by rw [uw]; omega))
theorem O3 {s:ByteArray} (h:s.size<=100000):Ok (pu s) fun y=>y.size=s.size+16:=by
 unfold pu;exact aX (AN (s:=s) (by omega)) (aP (Ez _) fun u hu=>cY (nE (by omega)) (aq (by rw [uw]; omega)))
theorem EO (C:bk l) (h:iR l x):Ok (db [x]) fun _=>True:=by
 have hl:=C.high;obtain⟨h1,h2⟩:=h.reads C;obtain⟨n,hn,e⟩:=h.key;have hv:=h.value C;have hg:og l x.b:=.inr ⟨n,hn,e⟩;unfold db;rw [decide_eq_false (by simp),cond_false];refine aP (MU _) fun u hu=>aP (MU _) fun v hv2=>cY (nE (by omega)) ?_;refine bL (fun (k:Nat) (s:ByteArray×Int)=>s.2=k/\s.1.size<=1000*(k+1)) (fun r=>∃ s:ByteArray,r = .go s/\s.size<=5000) 1 ⟨rfl,by rw [uw]; omega⟩ ?_ ?_
 ·rintro k ⟨s,i⟩ O ⟨rfl,hs⟩;dsimp only at hs ⊢;unfold cK;refine aS (fun hlt=>?_) (fun _=>aq ⟨s,rfl,by omega⟩);have hlt:k<[x].length:=by have:=of_decide_eq_true hlt; omega
  obtain rfl:k=0:=by simp at hlt; omega
  refine aX (bB hlt) ?_;show Ok ((da x).bind _) _;refine aX (Er C h) ?_;simp only [eE,cond_false];refine aP (EH hl hg) fun u2 hu2=>aP (MU _) fun u3 hu3=>cY (nE (by omega)) (cY (nE (by rw [uw]; omega)) ?_);refine bL (fun (j:Nat) (t:ByteArray×Int)=>t.2=j/\t.1.size<=1100+50*j) (fun t=>t.size<=1400) x.v.length ⟨rfl,by rw [uw,uw]; omega⟩ ?_ ?_
  ·rintro j ⟨t,i⟩ hj ⟨rfl,ht⟩;dsimp only at ht ⊢;unfold dN;refine aS (fun hlt2=>?_) (fun _=>aq (by show t.size<=1400; omega));have hlt2:j<x.v.length:=by have h9:(j:Int)<(x.v.length:Int):=of_decide_eq_true hlt2; omega
   obtain⟨g1,_⟩:=h2 _ (dG hlt2);refine aX (bB hlt2) (aP (EH hl g1) fun a ha=>aP (Ez _) fun c hc=>cY (nE (by omega)) (cY (nE (by rw [uw]; omega)) (aq ⟨hlt2,cy (by omega),?_⟩)));show (t++(a++c)).size<=_;rw [uw,uw]; omega
  ·intro t ht;unfold jh jg;refine aP (Nz (s:=x.t) (by omega)) fun a ha=>aP (MU _) fun c hc=>cY (nE (by omega)) (cY (nE (by rw [uw]; omega)) (aq ⟨by omega,rfl,?_⟩));show (t++(a++c)).size<=_;rw [uw,uw]; omega
 ·rintro r ⟨s,rfl,hs⟩;show Ok (eN s) _;unfold eN;exact aP (O3 (by omega)) fun _ _=>aq trivial
theorem Es (C:bk l) (hx:iR l x) (hy:iR l y):Ok (tg x y) fun _=>True:=by
 unfold tg;refine aX (rF _ _) (aS (fun _=>aq trivial) (fun _=>aP (EO C hx) fun u _=>aP (EO C hy) fun v _=>?_));exact aX (v:=Lib.compareBytes u.toList v.toList) rfl (aq trivial)
theorem G8 {xs:List ac} (hn:xs.length<=1000) (h:∀ x∈xs,x.v.length<=1000):io xs=some xs:=by
 unfold io;rw [show loop (fun s:(List ac)×Int=>d5 xs s.1 s.2) (([]:List ac),0)=some xs from
  eh (xs:=xs) (fun k=>(xs.take k,(k:Int))) rfl (fun k x hx=>by
   have O:=aU hx;dsimp only;unfold d5;have h1:=h x (az hx);rw [dlt O,cond_true,aV,hx,al,eZ (by simp; omega),eZ (by simp; omega)];simp only [gd,cond_true,ow];rw [cy (by omega),bI hx]) (by
   dsimp only;unfold d5;rw [bZ,cond_false,f9]),al]
 rfl
theorem MO (C:bk l) {a b:List ac} (ha:∀ x∈a,iR l x) (hb:∀ x∈b,iR l x) (hn:a.length+b.length<=500):Ok (sr a b) fun y=>y.1.length<=a.length+b.length/\(∀ x∈y.1,iR l x):=by
 have hab:∀ x∈a++b,iR l x:=fun x hx=>by
  rcases cM.1 hx with hx | hx
  ·exact ha x hx
  ·exact hb x hx
 have hlen:(a++b).length<=500:=by rw [br]; exact hn
 unfold sr;refine cY (eZ (by simp; omega)) (cY (eZ (by simp; omega)) ?_);refine aX (v:=Fl.go ()) (dX (r:=Fl.go ()) (a++b).length (fun k O=>?_) ?_) ?_
 ·unfold nz;simp only [ow];rw [dlt O,cond_true,bB O,al,Er C (hab _ (dG O)),al,eE,cond_false,cy (by omega)]
 ·unfold nz;simp only [ow];rw [bZ]; rfl
 show Ok (ny a b) _;unfold ny;refine cY (eZ (by simp; omega)) (cY (eZ (by simp; omega)) ?_);refine bL (fun (k:Nat) (s:(List ac)×Int)=>s.2=k/\s.1.length<=k/\∀ x∈s.1,iR l x) (fun r=>r.length<=(a++b).length/\∀ x∈r,iR l x) (a++b).length ⟨rfl,bx _,fun x hx=>absurd hx cF⟩ ?_ ?_
 ·rintro k ⟨o,i⟩ O ⟨rfl,h2,h3⟩;dsimp only at h2 h3 ⊢;unfold qK;simp only [ow];refine aS (fun hlt=>?_) (fun _=>aq ⟨by show o.length<=_; omega,h3⟩);have hlt:k<(a++b).length:=by have:=of_decide_eq_true hlt; omega
  have hx:=hab _ (dG hlt);refine aX (bB hlt) ?_;refine bL (fun (j:Nat) (s:Int)=>s=j/\j<=o.length) (fun r=>∃ j:Nat,r=j/\j<=o.length) o.length ⟨rfl,cT _⟩ ?_ ?_
  ·rintro j s hj ⟨rfl,hj2⟩;unfold qJ;refine aS (fun hlt2=>?_) (fun _=>aq ⟨j,rfl,hj2⟩);have hlt2:j<o.length:=by have:=of_decide_eq_true hlt2; omega
   refine aX (bB hlt2) (aP (Es C (h3 _ (dG hlt2)) hx) fun u _=>aS (fun _=>aq ⟨hlt2,cy (by omega),hlt2⟩) (fun _=>aq ⟨j,rfl,hj2⟩))
  ·rintro r ⟨j,rfl,hj⟩;have hj3:∀ q,Ok (lg o (k:Int) (a++b)[k] (j:Int) q) fun r=>match r with
     | .go s'=>k<(a++b).length/\(s'.2=((k+1:Nat):Int)/\s'.1.length<=k+1/\∀ x∈s'.1,iR l x)
     | .out r=>r.length<=(a++b).length/\∀ x∈r,iR l x:=fun q=>by
    unfold lg nx;refine aS (fun _=>?_) (fun _=>aq ⟨hlt,cy (by omega),by show o.length<=k+1; omega,h3⟩);refine aX (vm hj) (aX (vX hj) ?_);refine cY (eZ (by simp; omega)) (cY (eZ (by simp; omega)) (cY (eZ (by simp; omega)) (aq ⟨hlt,cy (by omega),by simp; omega,fun x hm=>?_⟩)));rcases cM.1 hm with hm | hm
    ·rcases cM.1 hm with hm | hm
     ·exact h3 x (Gl (by simpa using hm))
     ·rw [cp.1 hm]; exact hx
    ·exact h3 x (Dy hm)
   unfold qI;refine aS (fun _=>(hj3 _).mono fun y hy=>by cases y <;> exact hy) (fun hne=>?_);have hlt2:j<o.length:=by
    have:((j:Int)==(o.length:Int))=false:=hne;have h5:(j:Int)≠(o.length:Int):=by simpa using this
    omega
   exact aX (bB hlt2) (aP (Es C (h3 _ (dG hlt2)) hx) fun u _=>(hj3 _).mono fun y hy=>by cases y <;> exact hy)
 ·rintro r ⟨hr,hr2⟩;unfold qH;rw [br] at hr;rw [decide_eq_false (by omega),cond_false,G8 (by omega) fun x hx=>by have:=((hr2 x hx).reads C).1; omega];exact aq ⟨hr,hr2⟩
theorem Fr (C:bk l) {b:ap} (hB:jo l b) (hH:LA l b) (hrev:b.r<=1000) {d:List Int} {i:Int} (hd:di d i):Ok (m4 ⟨d,i⟩ l b) fun y=>y.1.length<=24/\(∀ x∈y.1,iR l x)/\di y.2.L y.2.k1:=by
 unfold m4;refine aP (fJ hd (by omega) (by omega)) fun y ⟨y1,y2,d1⟩=>?_;rw [ki (by omega) (by omega)];refine bL (fun (k:Nat) (s:(List ac)×Int×(List Int)×Int×Int×(List be)×(List ar))=>s.2.1=1+y.1-k/\0<=s.2.1/\s.1.length<=8*k/\(∀ x∈s.1,iR l x)/\di s.2.2.1 s.2.2.2.1/\(jo l (ap.mk s.2.2.2.2.1 s.2.2.2.2.2.1 s.2.2.2.2.2.2)/\LA l (ap.mk s.2.2.2.2.1 s.2.2.2.2.2.1 s.2.2.2.2.2.2))/\s.2.2.2.2.1<=1000+k) (fun r=>r.1.length<=24/\(∀ x∈r.1,iR l x)/\di r.2.1 r.2.2) 3 ⟨by simp,by show 0<=1+y.1; omega,by show 0<=_; omega,fun x hx=>absurd hx cF,d1,⟨hB,hH⟩,by show b.r<=_; omega⟩ ?_ (fun r hr=>aq hr);rintro k ⟨o,c,d,i,rev,ins,recs⟩ O ⟨g1,g2,g3,g4,g5,⟨g6,⟨H,g7⟩⟩,g8⟩;dsimp only at g1 g2 g3 g4 g5 g6 g7 g8 ⊢;unfold mH;refine aS (fun hc=>?_) (fun _=>aq ⟨by show o.length<=24; omega,g4,g5⟩);have hc:=of_decide_eq_true hc;refine aP (Hu C g5 (by omega) (by omega)) fun z ⟨z1,z2,d2⟩=>aP (xr C g6 g7 z1 z2) fun u hu=>aP (IX C hu.lv.ok hu.vi) fun a ⟨a1,a2⟩=>aP (MO C g4 a2 (by omega)) fun m ⟨m1,m2⟩=>aP (Cm d2 (by omega) (by omega)) fun w ⟨w1,w2,d3⟩=>?_;have hur:u.1.r=rev:=hu.lv.rev;refine aP (Ba C hu.lv.ok ⟨H,hu.vi⟩ (by rw [hur]; omega) w1 (by omega)) fun v ⟨v1,v2,v3,_⟩=>?_;rw [hur] at v2;exact aq ⟨by omega,by show IntKind.i64.wrap (c-1)=_; rw [ki (by omega) (by omega)]; omega,by show 0<=IntKind.i64.wrap (c-1); rw [ki (by omega) (by omega)]; omega,by show m.1.length<=_; omega,m2,d3,⟨v1,v3⟩,by show v.1.r<=_; omega⟩
end
end
section
open Go.Lib hiding intOf
variable {N:Nat} {α:Type} {W:α->List Int} {o:List Int} {s:ByteArray} {xs:List α}
def hb (N i:Nat):Nat:=N / 256 ^ i % 256
theorem Tg (N i:Nat):hb N i<256:=Nat.mod_lt _ (by omega)
def QT (N:Nat):List Nat:=[hb N 7,hb N 6,hb N 5,hb N 4,hb N 3,hb N 2,hb N 1,hb N 0]
def rQ (n:Int):List Int:=(QT n.toNat).map fun b:Nat=>(b:Int)
theorem dY (n:Int):(rQ n).length=8:=rfl
theorem TK {x:Nat} {i:Nat} (hi:i<=7):cS .u64 (x:Int) ((8*i:Nat):Int)=((x / 256 ^ i:Nat):Int):=by
 unfold cS;rw [gP,show min (8*i) (IntKind.u64.bits)=8*i from A4 (by show 8*i<=64; omega)];have e:(2:Int) ^ (8*i)=((256 ^ i:Nat):Int):=by
  rw [show (256:Nat) ^ i=2 ^ (8*i) by rw [Nat.pow_mul]]
  push_cast
  rfl
 rw [e,NS _ (Int.natCast_nonneg _)];rfl
theorem Qh (x:Nat):IntKind.u8.wrap (x:Int)=((x % 256:Nat):Int):=by
 simp [IntKind.wrap,IntKind.bits,IntKind.signed]
theorem Jb (N:Nat) {k:Nat} (O:k<8):(QT N)[k]? = some (hb N (7-k)):=by
 unfold QT;rcases (show k=0∨k=1∨k=2∨k=3∨k=4∨k=5∨k=6∨k=7 by omega) with rfl | rfl | rfl | rfl | rfl | rfl | rfl | rfl <;> rfl
theorem JI (hN:N<18446744073709551616) {k:Nat} (O:k<8):IntKind.u8.wrap (cS .u64 (IntKind.u64.wrap (N:Int)) (IntKind.i64.wrap (8*(7-(k:Int)))))=((hb N (7-k):Nat):Int):=by
 rw [wz hN,ki (by omega) (by omega),show 8*(7-(k:Int))=((8*(7-k):Nat):Int) by omega,TK (by omega),Qh]; rfl
theorem CV (hN:N<18446744073709551616) (ho:o.length+8<=140737488355328):cj ⟨o⟩ (N:Int)=some ⟨o++rQ N⟩:=by
 have hl:(rQ (N:Int)).length=8:=rfl;unfold cj;rw [show loop (fun s:Int×(List Int)=>de (N:Int) s.1 s.2) (7,o)=some (o++rQ N) from
  o7 (B:=fun s:Int×(List Int)=>de (N:Int) s.1 s.2) (fun k=>(7-(k:Int),o++(rQ N).take k)) 8 (by simp) (fun k O=>by
   dsimp only;unfold de;have hg:(rQ (N:Int))[k]? = some ((hb N (7-k):Nat):Int):=by
    unfold rQ;rw [uy,gP,Jb N O]; rfl
   rw [decide_eq_true (by omega),cond_true,JI hN O,decide_eq_true (by rw [ki (by omega) (by omega)]; omega),Uf (by simp; omega)];simp only [gd,cond_true];rw [ki (by omega) (by omega),bI hg,cA,show 7-(k:Int)-1=7-((k+1:Nat):Int) by omega]) (by
   dsimp only;unfold de;rw [decide_eq_false (by omega),cond_false,sI (by omega)]),al]
 rfl
theorem Km (ho:o.length+8+s.size<=140737488355328):fY ⟨o⟩ s=some ⟨o++(rQ s.size++mP s)⟩:=by
 unfold fY;rw [CV (by omega) (by omega),al,Uf (by rw [br,dY]; omega)];simp only [gd,cond_true,cA]
def wx (s:ByteArray):List Int:=rQ s.size++mP s
def BU (k:ae):List Int:=rQ k.k++wx k.x
theorem vr (s:ByteArray):(wx s).length=8+s.size:=by unfold wx; rw [br,dY,vB]
theorem jk (k:ae):(BU k).length=16+k.x.size:=by unfold BU; rw [br,dY,vr]; omega
def Gx (n:Int):Prop:=0<=n/\n<9223372036854775808
theorem Kb {n:Int} (hn:Gx n) (ho:o.length+8<=140737488355328):cj ⟨o⟩ n=some ⟨o++rQ n⟩:=by
 obtain⟨h1,h2⟩:=hn;obtain⟨N,rfl⟩:∃ N:Nat,n=N:=⟨n.toNat,by omega⟩;exact CV (by omega) ho
theorem Ku {k:ae} (O:Gx k.k) (ho:o.length+(BU k).length<=140737488355328):gG ⟨o⟩ k=some ⟨o++BU k⟩:=by
 rw [jk] at ho;unfold gG;rw [Kb O (by omega),al,Km (by rw [br,dY]; omega),al];unfold BU wx;simp only [cA]
theorem In {F:Int->List Int->Option (Fl (Int×(List Int)) ((List Int)))} (hn:xs.length<=1000000) (ho:o.length+(xs.flatMap W).length<=140737488355328)
  (hF:∀ (k:Nat) (x:α) (w:List Int),xs[k]? = some x->w.length+(W x).length<=140737488355328->F k w=some (.go (((k+1:Nat):Int),w++W x))) (hE:∀ w,F (xs.length:Int) w=some (.out w)):loop (fun s:Int×(List Int)=>F s.1 s.2) (0,o)=some (o++xs.flatMap W):=by
 refine eh (xs:=xs) (fun k=>((k:Int),o++(xs.take k).flatMap W)) (by simp) (fun k x hx=>?_) ?_
 ·dsimp only;have h1:((xs.take (k+1)).flatMap W).length<=(xs.flatMap W).length:=by
   conv=>rhs; rw [<- qS (k+1) xs,yw,br]
   omega
  rw [bI hx,yw,br,show ([x]:List α).flatMap W=W x by simp] at h1;rw [hF k x _ hx (by rw [br]; omega),bI hx,yw,cA];simp
 ·dsimp only;rw [hE,f9]
def AZ (d:aE):List Int:=rQ d.o++rQ d.p
def En (r:bM):List Int:=BU r.b++AZ r.h
def p8 (x:ac):List Int:=BU x.b++(rQ x.v.length++(x.v.flatMap En++(wx x.t++rQ x.a)))
def tY (l:List ac):List Int:=rQ 12++(rQ l.length++l.flatMap p8)
theorem Ey {d:aE} (h1:Gx d.o) (h2:0<=d.p/\d.p<18446744073709551616):nO d=some (gg (AZ d)):=by
 obtain⟨a1,a2⟩:=h1;obtain⟨N,hN⟩:∃ N:Nat,d.o=N:=⟨d.o.toNat,by omega⟩;obtain⟨M,B⟩:∃ M:Nat,d.p=M:=⟨d.p.toNat,by omega⟩;have step:∀ (o:List Int) (K:Nat),K<18446744073709551616->o.length<=100->loop (fun s:(List Int)×Int=>gT (K:Int) s.1 s.2) (o,7)=some (o++rQ K):=fun o K hK ho =>
  o7 (B:=fun s:(List Int)×Int=>gT (K:Int) s.1 s.2) (fun k=>(o++(rQ K).take k,7-(k:Int))) 8 (by simp) (fun k O=>by
   dsimp only;unfold gT;have hg:(rQ (K:Int))[k]? = some ((hb K (7-k):Nat):Int):=by
    unfold rQ;rw [uy,gP,Jb K O]; rfl
   have hb:=JI hK O;rw [wz hK] at hb;rw [decide_eq_true (by omega),cond_true,hb,decide_eq_true (by rw [ki (by omega) (by omega)]; omega),Uf (by rw [br,gQ,dY]; simp; omega)];simp only [gd,cond_true];rw [ki (by omega) (by omega),bI hg,cA,show 7-(k:Int)-1=7-((k+1:Nat):Int) by omega]) (by
   dsimp only;unfold gT;rw [decide_eq_false (by omega),cond_false,sI (by rw [dY]; omega)])
 unfold nO;rw [show IntKind.u64.wrap d.o=(N:Int) by rw [hN]; exact wz (by omega),B];have l4:∀ (o:List Int) (k:Nat) (K:Nat),k<2->([(N:Int),(M:Int)])[k]? = some (K:Int)->K<18446744073709551616->o.length<=100->gU d o [(N:Int),(M:Int)] (k:Int)=some (.go (o++rQ K,[(N:Int),(M:Int)],((k+1:Nat):Int))):=fun o k K O hg hK ho=>by
  unfold gU o5;rw [show ([IntKind.u64.wrap d.o,d.p]:List Int).length=2 from rfl,dlt (n:=2) O,cond_true,aV,hg,al,step o K hK ho,al,cy (by omega)]
 rw [show loop (fun s:(List Int)×(List Int)×Int=>gU d s.1 s.2.1 s.2.2) (([]:List Int),[(N:Int),(M:Int)],0)=some (rQ N++rQ M) from
  (eV (l4 [] 0 N (by omega) rfl (by omega) (by simp))).trans ((eV (l4 (rQ N) 1 M (by omega) rfl (by omega) (by rw [dY]; omega))).trans (cR (by
   dsimp only;unfold gU;rfl))),al]
 unfold o0 AZ;rw [hN,B]
theorem ko (N i:Nat):N / 256 ^ i=N / 256 ^ (i+1)*256+hb N i:=by
 unfold hb;rw [A5,<- Nat.div_div_eq_div_mul];omega
theorem Ca (l:List Int):(gg l).toList=l.map fun n=>UInt8.ofNat n.toNat:=by unfold gg; rw [ByteArray.toList_eq]
theorem sY (l:List Int):(gg l).size=l.length:=by rw [<- AW,Ca,iq]
theorem Fu {t:ByteArray} (h:s.toList=t.toList):s=t:=by
 rw [ByteArray.toList_eq,ByteArray.toList_eq] at h;exact Fc (Dx.1 h)
def IE (l:List Int):Prop:=∀ x∈l,0<=x/\x<256
theorem yx {l:List Int} (h:IE l):mP (gg l)=l:=by
 unfold mP;rw [Ca,BB]
 conv=>rhs; rw [<- List.map_id l]
 refine Fk fun x hx=>?_;obtain⟨h1,h2⟩:=h x hx;show ((UInt8.ofNat x.toNat).toNat:Int)=x;rw [UInt8.toNat_ofNat'];omega
theorem yS (s:ByteArray):gg (mP s)=s:=by
 apply Fu;rw [Ca];unfold mP;rw [BB]
 conv=>rhs; rw [<- List.map_id s.toList]
 refine Fk fun x hx=>?_;show UInt8.ofNat ((x.toNat:Int)).toNat=x;simp
theorem KH (s:ByteArray):IE (mP s):=by
 intro x hx;unfold mP at hx;obtain⟨c,_,rfl⟩:=cL.1 hx;have h:c.toNat<256:=c.toNat_lt;exact⟨by omega,by omega⟩
theorem wP (n:Int):IE (rQ n):=by
 intro x hx;unfold rQ at hx;obtain⟨c,hc,rfl⟩:=cL.1 hx;have:c<256:=by
  unfold QT at hc;simp only [bC,cF,or_false] at hc;rcases hc with rfl | rfl | rfl | rfl | rfl | rfl | rfl | rfl <;> exact Tg _ _
 exact⟨by omega,by omega⟩
noncomputable def yt (o:List Int):ByteArray:=gg o++gg (AZ (uQ (gg o)))
theorem Ml (h:s.size<=140000000000000):Gx (uQ s).o/\0<=(uQ s).p/\(uQ s).p<18446744073709551616:=by
 have hlt:=(fb c0 s.toList).isLt;refine⟨⟨?_,?_⟩,?_,?_⟩
 ·show (0:Int)<=(s.size:Int); omega
 ·show ((s.size:Int))<_; omega
 ·show (0:Int)<=((fb c0 s.toList).toNat:Int); omega
 ·show ((fb c0 s.toList).toNat:Int)<_; omega
theorem tZ (d:aE):(AZ d).length=16:=rfl
theorem l9 (a b:List Int):gg a++gg b=gg (a++b):=by
 apply Fu;rw [Ca,wF,ByteArray.toList_eq,ByteArray.data_append,Array.toList_append];rfl
theorem Dg (o:List Int):yt o=gg (o++AZ (uQ (gg o))):=l9 _ _
theorem Dh (o:List Int):(yt o).size=o.length+16:=by rw [Dg,sY,br,tZ]
theorem O2 (h:o.length<=140000000000000):iW ⟨o⟩=some (yt o,⟨o⟩):=by
 have hs:(gg o).size<=140000000000000:=by rw [sY]; omega
 obtain⟨d1,d2,d3⟩:=Ml hs;unfold iW;dsimp only;rw [FI hs,al,Ey d1 ⟨d2,d3⟩,al,show Nat.ble ((gg o).size+(gg (AZ (uQ (gg o)))).size) 140737488355328=true from wd (by rw [sY,sY,tZ]; omega)];rfl
theorem zG {α:Type} {W:α->List Int} {c:Nat}:∀ (xs:List α),(∀ x∈xs,(W x).length<=c)->(xs.flatMap W).length<=xs.length*c
 | [],_=>by simp
 | x::xs,h=>by
  have h1:=h x dF;have h2:=zG xs fun y hy=>h y (lp _ hy);rw [wD,br,dx,Nat.succ_mul]; omega
section
variable {l:List aL} {b c:ap} {k:ae} {x:be} {r:ar} {v:Int}
theorem og.kind (h:og l k):Gx k.k:=by
 rcases h with⟨c,_,rfl⟩|⟨n,_,rfl⟩
 ·exact⟨by show (0:Int)<=30; omega,by show (30:Int)<_; omega⟩
 ·rcases vh (l:=l) (n:=n) with e | e <;> (unfold Gx; rw [e]; omega)
end
def Qm (d:aE):Prop:=Gx d.o/\0<=d.p/\d.p<18446744073709551616
theorem oY {a b:List Int} (ha:IE a) (hb:IE b):IE (a++b):=fun x hx=>by
 rcases cM.1 hx with h | h
 ·exact ha x h
 ·exact hb x h
theorem B0 (d:aE):IE (AZ d):=oY (wP _) (wP _)
structure IK (r:bM):Prop where
 kind:Gx r.b.k
 text:r.b.x.size<=1073741824
 dig:Qm r.h
structure we (x:ac):Prop where
 kind:Gx x.b.k
 text:x.b.x.size<=1073741824
 few:x.v.length<=1000000
 reads:∀ r∈x.v,IK r
 value:x.t.size<=1073741824
 cost:Gx x.a
theorem Cb (r:bM):(En r).length=32+r.b.x.size:=by unfold En; rw [br,jk,tZ]; omega
theorem Ad (x:ac):(p8 x).length=40+x.b.x.size+x.t.size+(x.v.flatMap En).length:=by
 unfold p8; simp only [br,jk,vr,dY]; omega
theorem E5 (l:List ac):(tY l).length=16+(l.flatMap p8).length:=by
 unfold tY; simp only [br,dY]; omega
theorem Rj {r:bM} (h:IK r) (ho:o.length+(En r).length<=140737488355328):gh r ⟨o⟩=some ⟨o++En r⟩:=by
 rw [Cb] at ho;unfold gh;rw [Ku h.kind (by rw [jk]; omega),al,Ey h.dig.1 h.dig.2,al,yx (B0 _),Uf (by rw [sY,br,jk,tZ]; omega)];simp only [gd,cond_true];unfold En;rw [cA]
theorem TI {xs:List bM} (h:∀ x∈xs,IK x) (hn:xs.length<=1000000) (ho:o.length+8+(xs.flatMap En).length<=140737488355328):u9 ⟨o⟩ xs=some ⟨o++(rQ xs.length++xs.flatMap En)⟩:=by
 unfold u9;rw [CV (by omega) (by omega),al,In (W:=En) (xs:=xs) (F:=nV xs) hn (by rw [br,dY]; omega) (fun k x w hx hw=>by
  have O:=aU hx;unfold nV;rw [dlt O,cond_true,aV,hx,al,Rj (h x (az hx)) hw,al,cy (by omega)]) (fun w=>by
  unfold nV;rw [bZ]; rfl),al,cA]
 rfl
theorem Pg {x:ac} (h:we x) (ho:o.length+(p8 x).length<=140737488355328):iV x ⟨o⟩=some ⟨o++p8 x⟩:=by
 rw [Ad] at ho;unfold iV;rw [Ku h.kind (by rw [jk]; omega),al,TI h.reads h.few (by rw [br,jk]; omega),al,Km (by simp only [br,dY,jk]; omega),al,Kb h.cost (by simp only [br,dY,jk,vB]; omega),al];unfold p8 wx;simp only [cA]
theorem Qu {xs:List ac} (h:∀ x∈xs,we x) (hn:xs.length<=1000000) (ho:o.length+8+(xs.flatMap p8).length<=140737488355328):oL ⟨o⟩ xs=some ⟨o++(rQ xs.length++xs.flatMap p8)⟩:=by
 unfold oL;rw [CV (by omega) (by omega),al,In (W:=p8) (xs:=xs) (F:=iK xs) hn (by rw [br,dY]; omega) (fun k x w hx hw=>by
  have O:=aU hx;unfold iK;rw [dlt O,cond_true,aV,hx,al,Pg (h x (az hx)) hw,al,cy (by omega)]) (fun w=>by
  unfold iK;rw [bZ]; rfl),al,cA]
 rfl
theorem N7 {xs:List ac} (h:∀ x∈xs,we x) (hn:xs.length<=4000) (hs:(tY xs).length<=140000000000000) (hv:dd xs=some true):dv xs=some (yt (tY xs)):=by
 have hs2:=hs;rw [E5] at hs2;unfold dv;rw [decide_eq_false (by omega),cond_false,hv,al,eE,cond_false,show cj (cg.mk ([]:List Int)) 12=some ⟨[]++rQ 12⟩ from CV (N:=12) (by omega) (by simp),al,
  Qu h (by omega) (by simp only [br,dY,ma]; omega),al]
 have e:([]++rQ 12)++(rQ xs.length++xs.flatMap p8)=tY xs:=by unfold tY; rw [ow]
 rw [e,O2 (by omega),al]
section
variable {l:List aL}
theorem Qt (C:bk l) {x:ac} (h:iR l x):we x/\(p8 x).length<=200:=by
 have hl:=C.high;obtain⟨h1,h2⟩:=h.reads C;obtain⟨n,hn,e⟩:=h.key;have hg:og l x.b:=.inr ⟨n,hn,e⟩;have ht:=xM hl hg;have hv:=h.value C;have hc:=h.cost;have h7:=zG (W:=En) (c:=40) x.v fun r hr=>by
  have:=xM hl (h2 r hr).1;rw [Cb]; omega
 refine⟨⟨hg.kind,by omega,by omega,fun r hr=>?_,by omega,⟨by omega,by omega⟩⟩,by rw [Ad]; omega⟩;obtain⟨g1,g2,g3,g4,g5⟩:=h2 r hr;have:=xM hl g1;exact⟨g1.kind,by omega,⟨g2,by omega⟩,g4,g5⟩
end
theorem GT (h:∀ x∈xs,IE (W x)):IE (xs.flatMap W):=fun y hy=>by
 obtain⟨x,hx,h2⟩:=List.mem_flatMap.1 hy;exact h x hx y h2
theorem GU (s:ByteArray):IE (wx s):=oY (wP _) (KH _)
theorem JH (k:ae):IE (BU k):=oY (wP _) (GU _)
theorem B9 (hN:N<18446744073709551616):gf (N:Int)=some (gg (rQ N)):=by
 have hl:(rQ (N:Int)).length=8:=rfl;unfold gf;rw [show loop (fun s:(List Int)×Int=>fE (N:Int) s.1 s.2) (([]:List Int),56)=some (rQ N) from
  o7 (B:=fun s:(List Int)×Int=>fE (N:Int) s.1 s.2) (fun k=>((rQ N).take k,56-8*(k:Int))) 8 (by simp) (fun k O=>by
   dsimp only;unfold fE;have hg:(rQ (N:Int))[k]? = some ((hb N (7-k):Nat):Int):=by
    unfold rQ;rw [uy,gP,Jb N O]; rfl
   have e0:56-8*(k:Int)=((8*(7-k):Nat):Int):=by omega
   have e:IntKind.u8.wrap (cS .u64 (N:Int) (IntKind.u64.wrap (56-8*(k:Int))))=((hb N (7-k):Nat):Int):=by
    rw [e0,wz (by omega),TK (by omega),Qh]; rfl
   rw [decide_eq_true (by omega),cond_true,e,e0,wz (by omega),decide_eq_true (by omega),eZ (by simp; omega)];simp only [gd,cond_true];rw [ki (by omega) (by omega),bI hg,show ((8*(7-k):Nat):Int)-8=56-8*((k+1:Nat):Int) by omega]) (by
   dsimp only;unfold fE;rw [decide_eq_false (by omega),cond_false,sI (by omega)]),al]
 rfl
theorem C9 {n:Int} (hn:Gx n):jG n=some (gg (rQ n)):=by
 obtain⟨h1,h2⟩:=hn;obtain⟨N,rfl⟩:∃ N:Nat,n=N:=⟨n.toNat,by omega⟩;unfold jG;rw [wz (by omega),B9 (by omega)]; rfl
theorem Nh {n:Nat} (hn:n<=1000000):jG (n:Int)=some (gg (rQ n)):=C9 ⟨by omega,by omega⟩
theorem Ns {a b:List Int} (h:a.length+b.length<=140737488355328):Nat.ble ((gg a).size+(gg b).size) 140737488355328=true:=wd (by rw [sY,sY]; exact h)
theorem Ki (hs:s.size<=1073741824):pX s=some (gg (wx s)):=by
 unfold pX;rw [wz (by omega),B9 (by omega),al];rw [show Nat.ble ((gg (rQ (s.size:Int))).size+s.size) 140737488355328=true from wd (by rw [sY,dY]; omega)];simp only [gd,cond_true];unfold wx;rw [<- l9,yS]
theorem Kh {k:ae} (O:Gx k.k) (hs:k.x.size<=1073741824):pW k=some (gg (BU k)):=by
 unfold pW;rw [C9 O,al,Ki hs,al,Ns (by rw [dY,vr]; omega)];simp only [gd,cond_true];rw [l9]; rfl
theorem ES {d:aE} (h1:Gx d.o) (h2:0<=d.p/\d.p<18446744073709551616):lw d=some (gg (AZ d)):=by
 obtain⟨a1,a2⟩:=h1;obtain⟨N,hN⟩:∃ N:Nat,d.o=N:=⟨d.o.toNat,by omega⟩;obtain⟨M,B⟩:∃ M:Nat,d.p=M:=⟨d.p.toNat,by omega⟩;unfold lw AZ;rw [hN,B,wz (by omega),B9 (by omega),al,B9 (by omega),al,Ns (by rw [dY,dY]; omega)];simp only [gd,cond_true];rw [l9]
theorem Ni (h:o.length<=140000000000000):pu (gg o)=some (yt o):=by
 have hs:(gg o).size<=140000000000000:=by rw [sY]; omega
 obtain⟨d1,d2,d3⟩:=Ml hs;unfold pu;rw [AN hs,al,ES d1 ⟨d2,d3⟩,al,Ns (by rw [tZ]; omega)];rfl
theorem H8 {ρ:Type} {g:ByteArray->ρ} {F:ByteArray->Int->Option (Fl (ByteArray×Int) ρ)} (ho:o.length+(xs.flatMap W).length<=140000000000000)
  (hF:∀ (k:Nat) (x:α) (w:List Int),xs[k]? = some x->w.length+(W x).length<=140000000000000->F (gg w) (k:Int)=some (.go (gg (w++W x),((k+1:Nat):Int)))) (hE:∀ w,F w (xs.length:Int)=some (.out (g w))):loop (fun s:ByteArray×Int=>F s.1 s.2) (gg o,0)=some (g (gg (o++xs.flatMap W))):=by
 refine eh (xs:=xs) (fun k=>(gg (o++(xs.take k).flatMap W),(k:Int))) (by simp) (fun k x hx=>?_) ?_
 ·dsimp only;have h1:((xs.take (k+1)).flatMap W).length<=(xs.flatMap W).length:=by
   conv=>rhs; rw [<- qS (k+1) xs,yw,br]
   omega
  rw [bI hx,yw,br,show ([x]:List α).flatMap W=W x by simp] at h1;rw [hF k x _ hx (by rw [br]; omega),bI hx,yw,cA];simp
 ·dsimp only;rw [hE,f9]
theorem Oc (a b:Int):(a==b)=decide (a=b):=by by_cases h:a=b <;> simp [h]
theorem NH {k:ae} (hs:k.x.size<=140737488355328):∃ b,c6 k=some b/\cP k=some b:=by
 by_cases h:30<=k.k/\k.k<=32
 ·refine⟨decide (0<=AC k),?_,?_⟩
  ·unfold c6;rw [yU,decide_eq_true h,CO hs];rfl
  ·unfold cP gl;rw [decide_eq_true h.1,decide_eq_true h.2];simp only [cond_true];rw [rE];rfl
 ·have e2:cP k=gl k false:=by
   unfold cP;by_cases h1:30<=k.k
   ·rw [decide_eq_true h1,cond_true,decide_eq_false (fun h2=>h ⟨h1,h2⟩)]
   ·rw [decide_eq_false h1,cond_false]
  rw [e2];unfold c6 gl jM it eH ge fh;rw [yU,decide_eq_false h];simp only [al,cond_false];by_cases h1:1<=k.k <;> by_cases h2:k.k<=22 <;> by_cases h3:(k.x.size:Int)<=1073741824 <;> by_cases h4:k.k=1 <;> by_cases h5:k.k=21 <;>
   cases h6:(k.x.toList==cu.toList) <;> simp [h1,h2,h3,h4,h5,Oc,bne]
noncomputable def vk (k:ae):Bool:=(c6 k).getD false
theorem E4 {k:ae} (h:k.x.size<=140737488355328):c6 k=some (vk k)/\cP k=some (vk k):=by
 obtain⟨b,h1,h2⟩:=NH h;unfold vk;rw [h1,h2]; exact⟨rfl,rfl⟩
def Ap (k:ae):Bool:=(k.k:Int)==1||(k.k:Int)==2||(k.k:Int)==30
theorem B3 (k:ae):nT k=some (Ap k):=by
 unfold nT nU Ap;cases (k.k:Int)==1 <;> cases (k.k:Int)==2 <;> cases (k.k:Int)==30 <;> rfl
theorem Kr {k:ae} (h:k.x.size<=140737488355328) (hv:vk k=true):k.x.size<=1073741824:=by
 have e:=(E4 h).1;rw [hv] at e;by_cases ht:30<=k.k/\k.k<=32
 ·unfold c6 at e;rw [yU,decide_eq_true ht,CO h] at e;have hn:0<=AC k:=by simpa using e
  have hl:k.x.toList.length<=9:=by
   refine DH fun hc=>?_;have hd:tz k.x.toList = -1:=by
    unfold tz;rw [if_pos (.inr (.inl (by omega)))]
   unfold AC CU at hn;rw [if_pos ht,hd] at hn;split at hn <;> omega
  have:k.x.toList.length=k.x.size:=by rw [ByteArray.toList_eq,Array.length_toList]; rfl
  omega
 ·unfold c6 jM it eH ge at e;rw [yU,decide_eq_false ht] at e;simp only [al,cond_false] at e;refine DH fun hc=>?_;have h3:¬ (k.x.size:Int)<=1073741824:=by omega
  by_cases h1:1<=k.k <;> by_cases h2:k.k<=22 <;> simp [h1,h2,h3] at e
theorem Kq {k:ae} (hv:vk k=true):Gx k.k:=by
 unfold vk at hv;by_cases ht:30<=k.k/\k.k<=32
 ·exact⟨by omega,by omega⟩
 ·by_cases h1:1<=k.k
  ·by_cases h2:k.k<=22
   ·exact⟨by omega,by omega⟩
   ·unfold c6 jM it eH ge at hv;rw [yU,decide_eq_false ht] at hv;simp [h1,h2] at hv
  ·unfold c6 jM it eH ge at hv;rw [yU,decide_eq_false ht] at hv;simp [h1] at hv
noncomputable def LQ (r:bM):Bool:=!vk r.b||decide (r.h.o<0)
noncomputable def DP (x:ac):Bool:=!(x.v.any LQ)&&vk x.b && !Ap x.b&&decide ((x.t.size:Int)<=1073741824)&&decide (1<=x.a)&&decide (x.a<=1073741824)
structure GA (x:ac):Prop where
 few:x.v.length<=1000000
 text:x.b.x.size<=140737488355328
 texts:∀ r∈x.v,r.b.x.size<=140737488355328
def Ql (d:aE):Prop:=d.o<9223372036854775808/\0<=d.p/\d.p<18446744073709551616
theorem GO {x:ac} (h:GA x):lA x=some (DP x)/\da x=some (DP x):=by
 have hf:=h.few;obtain⟨k1,k2⟩:=E4 h.text;have hi:=B3 x.b;have hi2:cO x.b=some (Ap x.b):=by rw [<- Av]; exact hi
 have e1:loop (fun s:Int=>eG x s) 0=some (if x.v.any LQ then Fl.out false else Fl.go ()) :=
  xf (xs:=x.v) LQ (fun n=>(n:Int)) rfl
   (fun k r hr hp=>by
    have O:=aU hr;unfold eG;rw [iU hr,cond_true,aV,hr,al,(E4 (h.texts r (az hr))).1,al,cy (by omega)];unfold LQ at hp;generalize vk r.b=v at hp ⊢;generalize decide (r.h.o<0)=d at hp ⊢;cases v <;> cases d <;> first | rfl | (exact absurd hp (by decide)))
   (fun k r hr hp=>by
    have O:=aU hr;unfold eG;rw [iU hr,cond_true,aV,hr,al,(E4 (h.texts r (az hr))).1,al];unfold LQ at hp;generalize vk r.b=v at hp ⊢;generalize decide (r.h.o<0)=d at hp ⊢;cases v <;> cases d <;> first | rfl | (exact absurd hp (by decide)))
   (by unfold eG; rw [bZ]; rfl)
 have e2:loop (fun s:Int=>cE x s) 0=some (if x.v.any LQ then Fl.out false else Fl.go ()) :=
  xf (xs:=x.v) LQ (fun n=>(n:Int)) rfl
   (fun k r hr hp=>by
    have O:=aU hr;unfold cE;rw [iU hr,cond_true,aV,hr,al,(E4 (h.texts r (az hr))).2,al,cy (by omega)];unfold LQ at hp;generalize vk r.b=v at hp ⊢;generalize decide (r.h.o<0)=d at hp ⊢;cases v <;> cases d <;> first | rfl | (exact absurd hp (by decide)))
   (fun k r hr hp=>by
    have O:=aU hr;unfold cE;rw [iU hr,cond_true,aV,hr,al,(E4 (h.texts r (az hr))).2,al];unfold LQ at hp;generalize vk r.b=v at hp ⊢;generalize decide (r.h.o<0)=d at hp ⊢;cases v <;> cases d <;> first | rfl | (exact absurd hp (by decide)))
   (by unfold cE; rw [bZ]; rfl)
 unfold lA da DP;rw [e1,e2];generalize x.v.any LQ=a;cases a
 ·simp only [DG,if_false,Fl.el,al];unfold jC d7 eF cD;rw [k1,k2,hi,hi2];generalize vk x.b=v;generalize Ap x.b=i;generalize decide ((x.t.size:Int)<=1073741824)=x1;generalize decide (1<=x.a)=x2;generalize decide (x.a<=1073741824)=x3;cases v <;> cases i <;> cases x1 <;> cases x2 <;> cases x3 <;> exact⟨rfl,rfl⟩
 ·exact⟨rfl,rfl⟩
theorem L0 {x:ac} (h:GA x) (hd:∀ r∈x.v,Ql r.h) (hv:DP x=true):we x:=by
 unfold DP at hv;simp only [lq,sw,Iv,decide_eq_true_eq] at hv;obtain⟨⟨⟨⟨⟨v1,v2⟩,v3⟩,v4⟩,v5⟩,v6⟩:=hv;refine⟨Kq v2,Kr h.text v2,h.few,fun r hr=>?_,by omega,⟨by omega,by omega⟩⟩;have hb:=v1 r hr;unfold LQ at hb;simp only [wB,not_or,sw,Bool.not_eq_false,decide_eq_true_eq] at hb;obtain⟨b1,b2⟩:=hb;obtain⟨d1,d2,d3⟩:=hd r hr;exact⟨Kq b1,Kr (h.texts r hr) b1,⟨by omega,d1⟩,d2,d3⟩
noncomputable def Rv (l:List ac):Bool:=decide ((l.length:Int)<=4000) && !(l.any fun x=>!DP x)
section
variable {l:List ac}
theorem Bu {α:Type} (p:α->Bool):∀ xs:List α,(∀ x∈xs,p x=true)∨∃ a x b,xs=a++x::b/\(∀ y∈a,p y=true)/\p x=false
 | []=>.inl fun x hx=>by cases hx
 | x::xs=>by
  cases hp:p x with
  | false=>exact .inr ⟨[],x,xs,rfl,(fun y hy=>by cases hy),hp⟩
  | true =>
   rcases Bu p xs with h | ⟨a,y,b,rfl,h1,h2⟩
   ·refine .inl fun y hy=>?_;rcases bC.1 hy with rfl | hy
    ·exact hp
    ·exact h y hy
   ·refine .inr ⟨x::a,y,b,rfl,fun z hz=>?_,h2⟩;rcases bC.1 hz with rfl | hz
    ·exact hp
    ·exact h1 z hz
theorem Qf (hB:∀ x∈l,GA x) (hn:l.length<=1000000):dd l=some (!(l.any fun x=>!DP x)):=by
 have e1:loop (fun s:Int=>d8 l s) 0=some (if (l.any fun x=>!DP x) then Fl.out false else Fl.go ()) :=
  xf (xs:=l) (fun x=>!DP x) (fun n=>(n:Int)) rfl
   (fun k x hx hp=>by
    have O:=aU hx;have hp:DP x=true:=by simpa using hp
    unfold d8;rw [iU hx,cond_true,aV,hx,al,(GO (hB x (az hx))).1,al,cy (by omega),hp]; rfl)
   (fun k x hx hp=>by
    have hp:DP x=false:=by simpa using hp
    unfold d8;rw [iU hx,cond_true,aV,hx,al,(GO (hB x (az hx))).1,al,hp]; rfl)
   (by unfold d8; rw [bZ]; rfl)
 unfold dd;rw [e1];cases (l.any fun x=>!DP x) <;> rfl
theorem M5 {x:ac} {w:List Int} (h:we x) (hw:w.length+(x.v.flatMap En).length<=140000000000000):loop (fun s:ByteArray×Int=>dN x s.1 s.2) (gg w,0)=some (gg (w++x.v.flatMap En)) :=
 H8 (g:=id) (W:=En) (xs:=x.v) (F:=dN x) hw (fun k r w hx hw=>by
  have O:=aU hx;have hf:=h.few;have hr:=h.reads r (az hx);rw [Cb] at hw;unfold dN;rw [iU hx,cond_true,aV,hx,al,Kh hr.kind hr.text,al,ES hr.dig.1 hr.dig.2,al,Ns (by rw [jk,tZ]; omega)];simp only [gd,cond_true];rw [l9,Ns (by rw [br,jk,tZ]; omega),cond_true,l9,cy (by omega)];rfl) (fun w=>by
  unfold dN;rw [bZ]; rfl)
theorem M4 {k:Nat} {x:ac} {w:List Int} (hx:l[k]? = some x) (hB:GA x) (hv:DP x=true) (h:we x) (O:k<1000000) (hw:w.length+(p8 x).length<=140000000000000):cK l (gg w) (k:Int)=some (.go (gg (w++p8 x),((k+1:Nat):Int))):=by
 have h1:=h.text;have h2:=h.value;have hf:=h.few;rw [Ad] at hw;unfold cK;rw [iU hx,cond_true,aV,hx,al,(GO hB).2,al,hv,eE,cond_false,Kh h.kind h1,al,Nh hf,al,Ns (by rw [jk,dY]; omega)];simp only [gd,cond_true];rw [l9,Ns (by rw [br,jk,dY]; omega),cond_true,l9,M5 h (by simp only [br,jk,dY]; omega),al];unfold jh jg;rw [Ki h2,al,C9 h.cost,al,Ns (by rw [vr,dY]; omega)];simp only [gd,cond_true];rw [l9,Ns (by simp only [br,jk,vr,dY]; omega),cond_true,l9,cy (by omega)];unfold p8;simp only [cA]
theorem LW (hB:∀ x∈l,GA x) (hD:∀ x∈l,∀ r∈x.v,Ql r.h) (hn:l.length<=1000000) {C:Nat} (hC:∀ x∈l,DP x=true->(p8 x).length<=C) (hC2:∀ n:Nat,n<=l.length->n<=4000->n*C<=130000000000000) :
  (Rv l=false/\dv l=some ⟨#[]⟩/\db l=some ⟨#[]⟩)∨(Rv l=true/\(∀ x∈l,we x)/\l.length<=4000/\(tY l).length<=140000000000000/\dd l=some true/\dv l=some (yt (tY l))/\db l=some (yt (tY l))):=by
 have hvl:=Qf hB hn;by_cases h4:(4000:Int)<(l.length:Int)
 ·refine .inl ⟨?_,?_,?_⟩
  ·unfold Rv; rw [decide_eq_false (by omega)]; rfl
  ·unfold dv; rw [decide_eq_true h4,cond_true]
  ·unfold db; rw [decide_eq_true h4,cond_true]
 have hlen:l.length<=4000:=by omega
 have hsum:∀ a:List ac,a.length<=l.length->(∀ x∈a,x∈l/\DP x=true)->(a.flatMap p8).length<=130000000000000:=fun a ha h=>by
  have h7:=zG (W:=p8) (c:=C) a fun x hx=>hC x (h x hx).1 (h x hx).2;have:=hC2 a.length ha (by omega);omega
 have hstart:(rQ 12++rQ (l.length:Int)).length=16:=rfl;rcases Bu DP l with hall | ⟨a,x,b,e,ha,hx⟩
 ·have hrd:∀ x∈l,we x:=fun x hx=>L0 (hB x hx) (hD x hx) (hall x hx);have hw:=hsum l (bx _) fun x hx=>⟨hx,hall x hx⟩;have han:(l.any fun x=>!DP x)=false:=by
   rw [Iv];intro x hx;rw [hall x hx]; decide
  rw [han] at hvl;have hwl:(tY l).length<=140000000000000:=by rw [E5]; omega
  refine .inr ⟨?_,hrd,hlen,hwl,hvl,N7 hrd hlen hwl hvl,?_⟩
  ·unfold Rv; rw [decide_eq_true (by omega),han]; rfl
  ·unfold db;rw [decide_eq_false h4,cond_false,C9 ⟨by omega,by omega⟩,al,Nh hn,al,Ns (by rw [dY,dY]; omega)];simp only [gd,cond_true];rw [l9,H8 (g:=Fl.go) (W:=p8) (xs:=l) (F:=cK l) (by rw [hstart]; omega) (fun k x w hx hw=>M4 hx (hB x (az hx)) (hall x (az hx)) (hrd x (az hx)) (by have:=aU hx; omega) hw) (fun w=>by
    unfold cK;rw [bZ]; rfl),al]
   show eN _=_;unfold eN;have e2:(rQ 12++rQ (l.length:Int))++l.flatMap p8=tY l:=by unfold tY; rw [cA]
   rw [e2,Ni hwl]; rfl
 ·have han:(l.any fun x=>!DP x)=true:=by
   rw [BA];exact⟨x,by rw [e]; simp,by rw [hx]; rfl⟩
  rw [han] at hvl;have hxl:x∈l:=by rw [e]; simp
  have hal:∀ y∈a,y∈l:=fun y hy=>by rw [e]; exact mb _ hy
  have hlen2:l.length=a.length+(b.length+1):=by rw [e]; simp
  have hw:=hsum a (by omega) fun y hy=>⟨hal y hy,ha y hy⟩;refine .inl ⟨?_,?_,?_⟩
  ·unfold Rv; rw [han]; simp
  ·unfold dv; rw [decide_eq_false h4,cond_false,hvl]; rfl
  ·have hget:∀ k,k<a.length->l[k]? = a[k]?:=fun k O=>by rw [e,jm O]
   have hgx:l[a.length]? = some x:=by rw [e,jn (bx _)]; simp
   have hlp:loop (fun s:ByteArray×Int=>cK l s.1 s.2) (gg (rQ 12++rQ (l.length:Int)),0)=some (Fl.out ⟨#[]⟩) :=
    o7 (B:=fun s:ByteArray×Int=>cK l s.1 s.2) (fun k=>(gg ((rQ 12++rQ (l.length:Int))++(a.take k).flatMap p8),(k:Int))) a.length (by simp) (fun k O=>by
     dsimp only;have hg:a[k]? = some a[k]:=bh O;have hm:=dG O;have h1:((a.take (k+1)).flatMap p8).length<=(a.flatMap p8).length:=by
      conv=>rhs; rw [<- qS (k+1) a,yw,br]
      omega
     rw [bI hg,yw,br,show ([a[k]]:List ac).flatMap p8=p8 a[k] by simp] at h1;rw [M4 (x:=a[k]) (by rw [hget k O,hg]) (hB _ (hal _ hm)) (ha _ hm) (L0 (hB _ (hal _ hm)) (hD _ (hal _ hm)) (ha _ hm)) (by omega) (by rw [br,hstart]; omega),bI hg,yw,cA];simp) (by
     dsimp only;unfold cK;rw [iU hgx,cond_true,aV,hgx,al,(GO (hB x hxl)).2,al,hx,mL,cond_true])
   unfold db;rw [decide_eq_false h4,cond_false,C9 ⟨by omega,by omega⟩,al,Nh hn,al,Ns (by rw [dY,dY]; omega)];simp only [gd,cond_true];rw [l9,hlp];rfl
end
end
section
open Go.Lib hiding intOf
variable {a b:List Int} {n:Int} {x:ac}
theorem QU {N M:Nat} (hN:N<18446744073709551616) (B:M<18446744073709551616) (h:QT N=QT M):N=M:=by
 unfold QT at h;simp only [List.cons.injEq,and_true] at h;obtain⟨h7,h6,h5,h4,h3,h2,h1,h0⟩:=h;have e8:N / 256 ^ 8=M / 256 ^ 8:=by
  rw [Nat.div_eq_of_lt (show N<256 ^ 8 by omega),Nat.div_eq_of_lt (show M<256 ^ 8 by omega)]
 have e7:N / 256 ^ 7=M / 256 ^ 7:=by rw [ko N 7,ko M 7,e8,h7]
 have e6:N / 256 ^ 6=M / 256 ^ 6:=by rw [ko N 6,ko M 6,e7,h6]
 have e5:N / 256 ^ 5=M / 256 ^ 5:=by rw [ko N 5,ko M 5,e6,h5]
 have e4:N / 256 ^ 4=M / 256 ^ 4:=by rw [ko N 4,ko M 4,e5,h4]
 have e3:N / 256 ^ 3=M / 256 ^ 3:=by rw [ko N 3,ko M 3,e4,h3]
 have e2:N / 256 ^ 2=M / 256 ^ 2:=by rw [ko N 2,ko M 2,e3,h2]
 have e1:N / 256 ^ 1=M / 256 ^ 1:=by rw [ko N 1,ko M 1,e2,h1]
 have e0:N / 256 ^ 0=M / 256 ^ 0:=by rw [ko N 0,ko M 0,e1,h0]
 rwa [Nat.pow_zero,Nat.div_one,Nat.div_one] at e0
def LP (n:Int):Prop:=0<=n/\n<18446744073709551616
theorem Gx.u (h:Gx n):LP n:=⟨h.1,by have:=h.2; omega⟩
theorem LP.nat {n:Nat} (h:n<=1000000000000):LP (n:Int):=⟨by omega,by omega⟩
theorem J9 {m:Int} (hn:LP n) (hm:LP m) (h:rQ n=rQ m):n=m:=by
 unfold rQ at h;obtain⟨n1,n2⟩:=hn;obtain⟨m1,m2⟩:=hm;have:=QU (N:=n.toNat) (M:=m.toNat) (by omega) (by omega) ((List.map_inj_right (fun x y e=>by omega)).1 h);omega
theorem CT {m:Int} (hn:LP n) (hm:LP m) (h:rQ n++a=rQ m++b):n=m/\a=b:=by
 obtain⟨h1,h2⟩:=Iw h rfl;exact⟨J9 hn hm h1,h2⟩
theorem Ia {s t:ByteArray} (hs:s.size<=1073741824) (ht:t.size<=1073741824) (h:wx s++a=wx t++b):s=t/\a=b:=by
 unfold wx at h;rw [cA,cA] at h;obtain⟨h1,h2⟩:=CT (LP.nat (by omega)) (LP.nat (by omega)) h;obtain⟨h3,h4⟩:=Iw h2 (by rw [vB,vB]; omega);exact⟨by rw [<- yS s,h3,yS],h4⟩
theorem J3 {k q:ae} (O:Gx k.k) (hq:Gx q.k) (hs:k.x.size<=1073741824) (ht:q.x.size<=1073741824) (h:BU k++a=BU q++b):k=q/\a=b:=by
 unfold BU at h;rw [cA,cA] at h;obtain⟨h1,h2⟩:=CT O.u hq.u h;obtain⟨h3,h4⟩:=Ia hs ht h2;obtain⟨x,y⟩:=k;obtain⟨u,v⟩:=q;exact⟨by rw [show x=u from h1,show y=v from h3],h4⟩
theorem Ow {d e:aE} (hd:Qm d) (he:Qm e) (h:AZ d++a=AZ e++b):d=e/\a=b:=by
 unfold AZ at h;rw [cA,cA] at h;obtain⟨h1,h2⟩:=CT hd.1.u he.1.u h;obtain⟨h3,h4⟩:=CT hd.2 he.2 h2;obtain⟨x,y⟩:=d;obtain⟨u,v⟩:=e;exact⟨by rw [show x=u from h1,show y=v from h3],h4⟩
theorem Q4 {r q:bM} (hr:IK r) (hq:IK q) (h:En r++a=En q++b):r=q/\a=b:=by
 unfold En at h;rw [cA,cA] at h;obtain⟨h1,h2⟩:=J3 hr.kind hq.kind hr.text hq.text h;obtain⟨h3,h4⟩:=Ow hr.dig hq.dig h2;obtain⟨x,y⟩:=r;obtain⟨u,v⟩:=q;exact⟨by rw [show x=u from h1,show y=v from h3],h4⟩
theorem Kf:∀ {xs ys:List bM},xs.length=ys.length->(∀ r∈xs,IK r)->(∀ r∈ys,IK r)->∀ {a b:List Int},xs.flatMap En++a=ys.flatMap En++b->xs=ys/\a=b
 | [],[],_,_,_,_,_,h=>⟨rfl,h⟩
 | [],y::ys,hl,_,_,_,_,_=>absurd hl (by simp)
 | x::xs,[],hl,_,_,_,_,_=>absurd hl (by simp)
 | x::xs,y::ys,hl,hx,hy,a,b,h=>by
  rw [wD,wD,cA,cA] at h;obtain⟨h1,h2⟩:=Q4 (hx x dF) (hy y dF) h;obtain⟨h3,h4⟩:=Kf (by simpa using hl) (fun r hr=>hx r (lp _ hr)) (fun r hr=>hy r (lp _ hr)) h2;exact⟨by rw [h1,h3],h4⟩
theorem N6 {y:ac} (hx:we x) (hy:we y) (h:p8 x=p8 y):x=y:=by
 unfold p8 at h;obtain⟨h1,h2⟩:=J3 hx.kind hy.kind hx.text hy.text h;have f1:=hx.few;have f2:=hy.few;obtain⟨h3,h4⟩:=CT (LP.nat (by omega)) (LP.nat (by omega)) h2;obtain⟨h5,h6⟩:=Kf (by omega) hx.reads hy.reads h4;obtain⟨h7,h8⟩:=Ia hx.value hy.value h6;have h9:=J9 hx.cost.u hy.cost.u h8;obtain⟨a,b,c,d⟩:=x;obtain⟨p,q,r,s⟩:=y;rw [show a=p from h1,show b=q from h5,show c=r from h7,show d=s from h9]
theorem Qx (r:bM):IE (En r):=oY (JH _) (B0 _)
theorem Of (x:ac):IE (p8 x):=oY (JH _) (oY (wP _) (oY (GT fun r _=>Qx r) (oY (GU _) (wP _))))
theorem GS (l:List ac):IE (tY l):=oY (wP _) (oY (wP _) (GT fun r _=>Of r))
theorem Nq {o p:List Int} (ho:IE o) (hp:IE p) (h:yt o=yt p):o=p:=by
 have hs:=congrArg ByteArray.size h;rw [Dh,Dh] at hs;rw [Dg,Dg] at h;have h2:=congrArg mP h;rw [yx (oY ho (B0 _)),yx (oY hp (B0 _))] at h2;exact (Iw h2 (by omega)).1
structure qV (x:ac):Prop where
 b:GA x
 v:DP x=true
 rd:we x
 few:x.v.length<=1000
noncomputable def xEq (x:ac):ByteArray:=yt (tY [x])
theorem qV.len (h:qV x):(p8 x).length<=2000000000000:=by
 have h1:=h.rd.text;have h2:=h.rd.value;have h3:=h.few;have h6:=zG (W:=En) (c:=1073741856) x.v fun r hq=>by
  have:=(h.rd.reads r hq).text;rw [Cb]; omega
 rw [Ad]; omega
theorem TX (h:qV x):dv [x]=some (xEq x)/\db [x]=some (xEq x):=by
 have hm:∀ y∈[x],y=x:=fun y hy=>cp.1 hy;rcases LW (l:=[x]) (C:=2000000000000) (fun y hy=>by rw [hm y hy]; exact h.b) (fun y hy r hr=>by
  rw [hm y hy] at hr;have:=(h.rd.reads r hr).dig;exact⟨this.1.2,this.2⟩) (by simp) (fun y hy _=>by rw [hm y hy]; exact h.len) (fun n hn _=>by
  have:n<=1:=hn;omega) with⟨h1,_⟩|⟨_,_,_,_,_,h1,h2⟩
 ·unfold Rv at h1;rw [List.any_cons,List.any_nil,h.v] at h1;simp at h1
 ·exact⟨h1,h2⟩
theorem NM {y:ac} (hx:qV x) (hy:qV y) (h:xEq x=xEq y):x=y:=by
 have h1:=Nq (GS _) (GS _) h;unfold tY at h1;obtain⟨h2,h3⟩:=Iw h1 rfl;obtain⟨h4,h5⟩:=Iw h3 rfl;simp only [wD,List.flatMap_nil,jA] at h5;exact N6 hx.rd hy.rd h5
end
section
open Go.Lib hiding intOf
noncomputable def Oy (x:ac):aj:=⟨x,xEq x⟩
noncomputable def oA (x y:ac):Int:=oE (Oy x) (Oy y)
theorem OS {x y:ac} (hx:qV x) (hy:qV y) (h:oA x y=0):x=y:=by
 unfold oA oE at h;by_cases O:bV (Oy x).X.b (Oy y).X.b≠0
 ·rw [if_pos O] at h;exact absurd h O
 ·rw [if_neg O] at h;exact NM hx hy (Fu (GV h))
theorem FX (x:ac):oA x x=0:=OT _
theorem OR (x y:ac):oA y x = - oA x y:=qs _ _
def Qr (l:List ac):Prop:=l.Pairwise fun a b=>oA a b<0
theorem AS:∀ {a b:List ac},Qr a->Qr b->(∀ x,x∈a↔x∈b)->a=b
 | [],[],_,_,_=>rfl
 | [],y::b,_,_,h=>absurd ((h y).2 dF) cF
 | x::a,[],_,_,h=>absurd ((h x).1 dF) cF
 | x::a,y::b,ha,hb,h=>by
  obtain⟨a1,a2⟩:=jl.1 ha;obtain⟨b1,b2⟩:=jl.1 hb;have e:x=y:=by
   rcases bC.1 ((h x).1 dF) with e | h1
   ·exact e
   rcases bC.1 ((h y).2 dF) with e | h2
   ·exact e.symm
   have h3:=b1 x h1;have h4:=a1 y h2;rw [OR] at h3;omega
  subst e;rw [AS a2 b2 fun z=>⟨fun hz=>?_,fun hz=>?_⟩]
  ·rcases bC.1 ((h z).1 (lp _ hz)) with e | h1
   ·have:=a1 z hz; rw [e,FX] at this; omega
   ·exact h1
  ·rcases bC.1 ((h z).2 (lp _ hz)) with e | h1
   ·have:=b1 z hz; rw [e,FX] at this; omega
   ·exact h1
structure Pw (a b r:List ac):Prop where
 asc:Qr r
 mem:∀ x,x∈r↔x∈a∨x∈b
theorem Fw {s:List bM} (h:s.length<=1000000):dh s=some s:=by
 unfold dh
 first
 | rfl
 | (rw [eZ (by first | omega | (simp; omega))]; rfl)
 | simp [gd,eZ,h]
theorem IZ {a b:List ac} (h:a.length+b.length<=1000000):lX [a,b]=some (a++b):=by
 unfold lX;have w1:IntKind.i64.wrap (0+(a.length:Int))=(a.length:Int):=by rw [ki (by omega) (by omega)]; omega
 have w2:IntKind.i64.wrap ((a.length:Int)+(b.length:Int))=((a.length+b.length:Nat):Int):=by rw [ki (by omega) (by omega)]; omega
 rw [eV (s':=((a.length:Int),1)) (by
  dsimp only;unfold fX;rw [show decide ((0:Int)<(([a,b]:List (List ac)).length:Int))=true from rfl,cond_true,show bp [a,b] 0=some a from rfl,al,w1,decide_eq_false (by omega),cond_false];rfl),eV (s':=(((a.length+b.length:Nat):Int),2)) (by
  dsimp only;unfold fX;rw [show decide ((1:Int)<(([a,b]:List (List ac)).length:Int))=true from rfl,cond_true,show bp [a,b] 1=some b from rfl,al,w2,decide_eq_false (by omega),cond_false];rfl),cR (r:=((a.length+b.length:Nat):Int)) (by
  dsimp only;unfold fX;rw [show decide ((2:Int)<(([a,b]:List (List ac)).length:Int))=false from rfl,cond_false]),al]
 unfold ly;rw [decide_eq_true (by omega),decide_eq_true (by omega)];simp only [gd,cond_true];rw [eV (s':=(a,1)) (by
  dsimp only;unfold fW;rw [show decide ((0:Int)<(([a,b]:List (List ac)).length:Int))=true from rfl,cond_true,show bp [a,b] 0=some a from rfl,al,eZ (by first | omega | (simp; omega))];rfl),eV (s':=(a++b,2)) (by
  dsimp only;unfold fW;rw [show decide ((1:Int)<(([a,b]:List (List ac)).length:Int))=true from rfl,cond_true,show bp [a,b] 1=some b from rfl,al,eZ (by first | omega | (simp; omega))];rfl),cR (r:=a++b) (by
  dsimp only;unfold fW;rw [show decide ((2:Int)<(([a,b]:List (List ac)).length:Int))=false from rfl,cond_false])]
 rfl
theorem yV {l:List ac} (h:∀ x∈l,qV x) (hn:l.length<=1000000):dd l=some true:=by
 rw [Qf (fun x hx=>(h x hx).b) hn,show (l.any fun x=>!DP x)=false from Iv.2 fun x hx=>by rw [(h x hx).v]; decide];rfl
theorem CR {a b:List ac} (ha:∀ x∈a,qV x) (hb:∀ x∈b,qV x) (hn:a.length+b.length<=4000):∃ r,mQ a b=some (r,0)/\Pw a b r:=by
 have hab:∀ x∈a++b,qV x:=fun x hx=>by
  rcases cM.1 hx with hx | hx
  ·exact ha x hx
  ·exact hb x hx
 have hlen:(a++b).length<=4000:=by rw [br]; exact hn
 obtain⟨z,s1,s2,s3⟩:=Nx (d:=(a++b).map Oy) (by rw [iq]; omega);have hz:∀ e∈z,∃ x∈a++b,Oy x=e:=fun e he=>cL.1 (s2.mem_iff.1 he);have hzl:z.length=(a++b).length:=by rw [s2.length_eq,iq]
 have hc:=G7 (s:=z) (by unfold Rm; omega) (fun p hp q hq e=>by
  obtain⟨x,hx,rfl⟩:=hz p hp;obtain⟨y,hy,rfl⟩:=hz q hq;rw [NM (hab x hx) (hab y hy) (Fu (eq_of_beq e))])
 have hcm:∀ e,e∈r5 z z.length↔e∈z:=fun e=>by
  rw [Cq (bx _)];constructor
  ·rintro⟨i,_,h⟩; exact az h
  ·intro h;obtain⟨i,hi,e2⟩:=IB h;exact⟨i,hi,by rw [<- e2]; exact bh hi⟩
 have hca:=G9 s3 (fun p hp q hq e=>by
  obtain⟨x,hx,rfl⟩:=hz p hp;obtain⟨y,hy,rfl⟩:=hz q hq;rw [OS (hab x hx) (hab y hy) e]) z.length (bx _)
 have hcl:=JP z z.length;refine⟨(r5 z z.length).map aj.X,?_,?_,fun x=>?_⟩
 ·unfold mQ;rw [yV ha (by omega),al,eE,cond_false,yV hb (by omega),al,eE,cond_false,IZ (by omega),al];rw [show loop (fun s:(List aj)×Int=>kD (a++b) s.1 s.2) (([]:List aj),0)=some ((a++b).map Oy) from
   eh (xs:=a++b) (fun k=>(((a++b).take k).map Oy,(k:Int))) rfl (fun k x hx=>by
    have O:=aU hx;have hv:=hab x (az hx);dsimp only;unfold kD;rw [dlt O,cond_true,aV,hx,al];unfold ub;rw [Fw (by have:=hv.few; omega),al,al,(TX hv).1,al,eZ (by first | omega | (simp; omega))];simp only [gd,cond_true];rw [cy (by omega),bI hx,wF];rfl) (by
    dsimp only;unfold kD;rw [bZ,cond_false,f9]),al]
  unfold qb;rw [s1,al,hc,al,decide_eq_false (by omega),cond_false];rw [show loop (fun s:(List ac)×Int=>kC (r5 z z.length) s.1 s.2) (([]:List ac),0)=some ((r5 z z.length).map aj.X) from
   eh (xs:=r5 z z.length) (fun k=>(((r5 z z.length).take k).map aj.X,(k:Int))) rfl (fun k x hx=>by
    have O:=aU hx;dsimp only;unfold kC;rw [dlt O,cond_true,aV,hx,al,eZ (by first | omega | (simp; omega))];simp only [gd,cond_true];rw [cy (by omega),bI hx,wF];rfl) (by
    dsimp only;unfold kC;rw [bZ,cond_false,f9])]
  rfl
 ·refine Dz.2 (hca.imp_of_mem fun {p q} hp hq h=>?_);obtain⟨x,hx,rfl⟩:=hz p ((hcm p).1 hp);obtain⟨y,hy,rfl⟩:=hz q ((hcm q).1 hq);exact h
 ·rw [cL,<- cM];constructor
  ·rintro⟨e,he,rfl⟩;obtain⟨y,hy,rfl⟩:=hz e ((hcm e).1 he);exact hy
  ·intro hx;exact⟨Oy x,(hcm _).2 (s2.mem_iff.2 (wc hx)),rfl⟩
end
section
open Go.Lib hiding intOf
end
section
open Go.Lib hiding intOf
structure Qk (x:ac):Prop where
 b:GA x
 dig:∀ r∈x.v,Ql r.h
 few:x.v.length<=1000
theorem Qk.v {x:ac} (h:Qk x) (hv:DP x=true):qV x:=⟨h.b,hv,L0 h.b h.dig hv,h.few⟩
theorem qV.r {x:ac} (h:qV x):Qk x:=⟨h.b,fun r hr=>by
 have:=(h.rd.reads r hr).dig;exact⟨this.1.2,this.2⟩,h.few⟩
end
section
open Go.Lib hiding intOf
variable {i:Nat} {l:List aL}
theorem Lr {n:Nat} (h:n<l.length) (hl:l.length<=1000000):vp l n=some (((blk (aW l) n).1:Int),((blk (aW l) n).2:Int)):=by
 unfold vp;rw [show decide ((n:Int)<0)=false by simp,show decide (((l.length:Int):Int)<=(n:Int))=false by simp; omega,bB h];simp only [cond_false,al];have hr:=lj h;cases hb:l[n].q with
 | false =>
  rw [hb] at hr;rw [uS hr,ki (by omega) (by omega)];rfl
 | true =>
  rw [hb] at hr;have h1:loop (fun s:Int=>oa l s) (n:Int)=some ((ZZ (aW l) n:Nat):Int):=by
   refine xT (I:=fun k s=>∃ a:Nat,a+k=n/\s=(a:Int)/\ZZ (aW l) a=ZZ (aW l) n) _ n ?_ ?_ ⟨n,rfl,rfl,rfl⟩
   ·rintro k _ O ⟨a,ha,rfl,e⟩;unfold oa;obtain⟨c,rfl⟩:∃ c,a=c+1:=⟨a-1,by omega⟩;have hc:c<l.length:=by omega
    rw [show decide ((0:Int)<((c+1:Nat):Int))=true by simp <;> omega,ki (by omega) (by omega),show (((c+1:Nat):Int)-1)=(c:Int) by omega,bB hc];simp only [cond_true,al];have hr2:=lj hc;rw [B7,hr2] at e;cases hb2:l[c].q with
    | true=>rw [hb2,if_pos rfl] at e; exact .inl ⟨_,rfl,c,by omega,rfl,e⟩
    | false=>rw [hb2,if_neg (by simp)] at e; right; rw [<- e]; rfl
   ·rintro _ ⟨a,ha,rfl,e⟩;obtain rfl:a=0:=by omega
    unfold oa;rw [<- e]; rfl
  have h2:loop (fun s:Int=>n9 l s) ((n+1:Nat):Int)=some ((Hy (aW l) ((aW l).length-(n+1)) (n+1):Nat):Int):=by
   have hlen:(aW l).length=l.length:=by simp [aW]
   rw [hlen];refine xT (I:=fun k s=>∃ a:Nat,a=n+1+k/\a<=l.length/\s=(a:Int)/\Hy (aW l) (l.length-a) a=Hy (aW l) (l.length-(n+1)) (n+1)) _ (l.length-(n+1)) ?_ ?_ ⟨n+1,rfl,h,rfl,rfl⟩
   ·rintro k _ O ⟨a,ha,hal,rfl,e⟩;unfold n9;have hc:a<l.length:=by omega
    rw [show decide ((a:Int)<(l.length:Int))=true by simp; omega,bB hc,ki (by omega) (by omega)];simp only [cond_true,al];have hr2:=lj hc;rw [show l.length-a=(l.length-(a+1))+1 by omega] at e;rw [CJ,hr2] at e;cases hb2:l[a].q with
    | true=>rw [hb2,if_pos rfl] at e; exact .inl ⟨_,rfl,a+1,by omega,by omega,by simp,e⟩
    | false=>rw [hb2,if_neg (by simp)] at e; right; rw [<- e]; rfl
   ·rintro _ ⟨a,ha,hal,rfl,e⟩;obtain rfl:a=l.length:=by omega
    unfold n9;rw [sJ] at e;rw [<- e];simp [Hy]
  simp only [eE,cond_false];rw [h1];simp only [al];unfold s5 sZ;rw [ki (by omega) (by omega),show ((n:Int)+1)=((n+1:Nat):Int) by omega,h2];simp [blk,hr]
theorem Dm (h:i<l.length) (hl:l.length<=1000000) (cell:Bool) (n:Int):vZ l (i:Int) cell n=some (CQ (aW l) i cell n):=by
 unfold vZ CQ;cases cell with
 | true =>
  rw [cond_true,cond_true];cases decide (0<=n) <;> rfl
 | false =>
  rw [cond_false,cond_false,Lr h hl,al];dsimp only;have hb:=IR (rs:=aW l) (n:=i) (by unfold aW; simpa using h);have hr:=lj h;rw [bB h,al];unfold B5;rw [hr];cases hg:l[i].q with
  | true =>
   rw [hg] at hr;rw [if_pos rfl];unfold nF;by_cases h0:0<=n
   ·rw [decide_eq_true h0];by_cases h1:n<((blk (aW l) i).1:Int)
    ·rw [decide_eq_true h1,decide_eq_true (show n<((blk (aW l) i).2:Int) by omega)]; rfl
    ·rw [decide_eq_false h1]; rfl
   ·rw [decide_eq_false h0]; rfl
  | false =>
   rw [hg] at hr;rw [if_neg (by simp),uS hr];unfold nF;cases decide (0<=n) <;> cases decide (n<(i:Int)) <;> rfl
theorem Nc (h:i<l.length) (hl:l.length<=1000000) (a:dz) (first:Bool):vq l (i:Int) a first=some (KD (aW l) i l[i].q first a):=by
 unfold vq KD lS;rw [bB h,Dm h hl,Dm h hl];simp only [al];cases a.v1 <;> cases l[i].q <;> cases first <;> cases CQ (aW l) i a.w a.N <;> cases CQ (aW l) i a.w a.d1 <;> rfl
theorem NC (h:i<l.length) (hl:RC l):loop (fun s:Int=>jU l (i:Int) l[i] s) 0=some (cond (za (aW l) i l[i]) (Fl.go ()) (Fl.out false)):=by
 have U:=hl.2 _ (dG h);have hB:=hl.1;have hstep:∀ k,(O:k<l[i].c.length)->jU l (i:Int) l[i] (k:Int)=some (cond (DU (aW l) i l[i] k) (.out (.out false)) (.go ((k+1:Nat):Int))):=fun k O=>by
  unfold DU;rw [bh O];dsimp only;unfold jU;rw [dlt O,cond_true,bB O,al,Nc h (by omega),al,cy (by omega)];generalize KD (aW l) i l[i].q (((k:Nat):Int)==0) l[i].c[k]=x;cases x <;> rfl
 have e:=vO (B:=fun s:Int=>jU l (i:Int) l[i] s) l[i].c.length (DU (aW l) i l[i]) (y:=Fl.out false) (r:=Fl.go ()) (fun k O hp=>by rw [hstep k O,hp]; rfl) (fun k O hp=>by rw [hstep k O,hp]; rfl) (by unfold jU; rw [bZ]; rfl);rw [e];unfold za;cases (List.range l[i].c.length).any (DU (aW l) i l[i]) <;> rfl
theorem Ls (hl:RC l):ti l=some (AY l):=by
 have hB:=hl.1;unfold ti AY;by_cases h24:(24:Int)<(l.length:Int)
 ·rw [decide_eq_true h24,decide_eq_false (by omega)]; rfl
 rw [decide_eq_false h24,decide_eq_true (by omega),cond_false];have hstep:∀ k,(O:k<l.length)->lR l (k:Int)=some (cond (DV l k) (.out (.out false)) (.go ((k+1:Nat):Int))):=fun k O=>by
  have hj:∀ low high most,ob l (k:Int) l[k] low high most=some (cond (Bt (aW l) k l[k] low high most) (.go ((k+1:Nat):Int)) (.out (.out false))):=fun low high most=>by
   unfold ob Bt;rw [NC O hl];unfold s6;rw [cy (by omega)];cases decide ((6:Int)<(l[k].c.length:Int)) <;> cases decide (l[k].j<low) <;> cases decide (high<l[k].j) <;> cases decide (l[k].C<0) <;> cases decide (most<l[k].C) <;> cases za (aW l) k l[k] <;> rfl
  unfold DV;rw [bh O];dsimp only;unfold lR H4;rw [dlt O,cond_true,bB O,al,hj,hj];generalize Bt (aW l) k l[k] 1 4 999=x1;generalize Bt (aW l) k l[k] 5 5 65535=x2;generalize l[k].q=rg;cases rg <;> cases x1 <;> cases x2 <;> rfl
 rw [vO (B:=fun s:Int=>lR l s) l.length (DV l) (y:=Fl.out false) (r:=Fl.go ()) (fun k O hp=>by rw [hstep k O,hp]; rfl) (fun k O hp=>by rw [hstep k O,hp]; rfl) (by unfold lR; rw [bZ]; rfl)];cases (List.range l.length).any (DV l) <;> rfl
theorem ER (r:ar) (k:ae):kW r k=some (bV r.b k):=by
 unfold kW;rw [Fx]; rfl
def below (l:List ar) (k:ae):Nat:=(l.filter fun r=>decide (bV r.b k<0)).length
theorem Eu {l:List ar} (h:Cd l) (k:ae):l=(l.filter fun r=>decide (bV r.b k<0))++(l.filter fun r=>decide (¬ bV r.b k<0)):=by
 induction l with
 | nil=>rfl
 | cons x r ih =>
  have h2:=jl.1 h;by_cases hx:bV x.b k<0
  ·rw [xF (by simpa using hx),t7 (by simpa using hx),List.cons_append,<- ih h2.2]
  ·have e:(r.filter fun r=>decide (bV r.b k<0))=[]:=by
    rw [Iy];intro y hy;have:=h2.1 y hy;simp only [decide_eq_true_eq];exact fun h=>hx (lC this h)
   have e2:(r.filter fun r=>decide (¬ bV r.b k<0))=r:=by
    rw [xG];intro y hy;simp only [decide_eq_true_eq];exact fun h=>hx (lC (h2.1 y hy) h)
   rw [t7 (by simpa using hx),xF (by simpa using hx),e,e2]; rfl
theorem GP (l:List ar) (k:ae):below l k<=l.length:=Fi _ _
theorem KF {l:List ar} (h:Cd l) (k:ae) {x:ar} (hx:l[i]? = some x):bV x.b k<0↔i<below l k:=by
 have e:=Eu h k;constructor
 ·intro hc;refine Nat.lt_of_not_ge fun hi=>?_;rw [e,jn hi] at hx;have:=(gC.1 (az hx)).2;simp only [decide_eq_true_eq] at this;exact this hc
 ·intro hi;rw [e,jm hi] at hx;have:=(gC.1 (az hx)).2;simpa using this
theorem M1 {l:List ar} (h:Cd l) (hl:Rm l.length) (k:ae):nX l k=some ((below l k:Int),match l[below l k]? with | some x=>bV x.b k==0 | none=>false):=by
 have hl':=hl;unfold Rm at hl;have hb:=GP l k;have key:Ok (nX l k) fun r=>r=((below l k:Int),match l[below l k]? with | some x=>bV x.b k==0 | none=>false):=by
  unfold nX BZ;refine aP (Q:=fun r=>r=((below l k:Int),match l[below l k]? with | some x=>bV x.b k==0 | none=>false)) ?_ fun v hv=>aq (by rw [hv]);refine bL (fun n s=>∃ i j:Nat,s=((i:Int),(j:Int))/\i<=below l k/\below l k<=j/\j<=l.length/\(j-i)+n<=l.length) (fun r=>r=(below l k:Int)) l.length ⟨0,l.length,rfl,cT _,hb,bx _,by omega⟩ (fun n s hn hI=>?_) (fun r hr=>?_)
  ·obtain⟨i,j,rfl,h1,h2,h3,h4⟩:=hI;unfold vA;dsimp only;by_cases hij:i<j
   ·rw [dlt hij,cond_true,Ay (by omega) (by omega),aV];have hm:(i+j) / 2<l.length:=by omega
    rw [bh hm,al,ER,al];have hg:=KF h k (bh hm);by_cases hc:bV l[(i+j) / 2].b k<0
    ·rw [decide_eq_true hc,cond_true,cy (by omega)];have:=hg.1 hc;exact aq ⟨by omega,(i+j) / 2+1,j,rfl,by omega,h2,h3,by omega⟩
    ·rw [decide_eq_false hc,cond_false];have:¬ (i+j) / 2<below l k:=fun hh=>hc (hg.2 hh);exact aq ⟨by omega,i,(i+j) / 2,rfl,h1,by omega,by omega,by omega⟩
   ·rw [Hj hij,cond_false];exact aq (by rw [show i=below l k by omega])
  ·subst hr;unfold vz tn;by_cases hlt:below l k<l.length
   ·rw [dlt hlt,cond_true,aV,bh hlt,al,ER,al];exact aq rfl
   ·rw [Hj hlt,cond_false,vu (by omega)];exact aq rfl
 obtain⟨r,e,rfl⟩:=key;exact e
theorem Q3 {l:List ar} {r:ar} (h:Cd l) (hl:NY l) (hr:Rm r.v.length):ru l r=some (eY l r):=by
 have hl1:=hl.1;unfold Rm at hl1;unfold ru;rw [JO hl,al,M1 h hl.1,al];dsimp only;have hs:=Eu h r.b;have hb:=GP l r.b;obtain⟨L,hL⟩:∃ L,L=l.filter fun x=>decide (bV x.b r.b<0):=⟨_,rfl⟩;obtain⟨H,hH⟩:∃ H,H=l.filter fun x=>decide (¬ bV x.b r.b<0):=⟨_,rfl⟩;have hbl:below l r.b=L.length:=by rw [hL]; rfl
 rw [<- hL,<- hH] at hs;have hasc:Cd H:=by rw [hH]; exact It _ h
 have hge:∀ x∈H,¬ bV x.b r.b<0:=fun x hx=>by rw [hH] at hx; simpa using (gC.1 hx).2
 have hgt:l.filter (fun x=>decide (0<bV x.b r.b))=H.filter fun x=>decide (0<bV x.b r.b):=by
  rw [hH,List.filter_filter];refine List.filter_congr fun x _=>?_;by_cases h0:0<bV x.b r.b
  ·simp [h0]; omega
  ·simp [h0]
 have e0:eY l r=L++r::H.filter fun x=>decide (0<bV x.b r.b):=by unfold eY; rw [hgt,hL]
 rw [e0];cases hHc:H with
 | nil =>
  have:l[below l r.b]? = none:=by rw [hbl,vu]; rw [hs,hHc]; simp
  rw [this];dsimp only;rw [cond_false,F3 hr,al,hbl];have hn:L.length=l.length:=by rw [hs,hHc]; simp
  rw [show decide (0<=(L.length:Int))=true from decide_eq_true (by omega),show decide ((L.length:Int)<=(l.length:Int))=true from decide_eq_true (by omega),show cm (l.length+1)=true from eZ (by omega)];simp only [gd,cond_true,gP];have hl2:l=L:=by rw [hs,hHc,jA]
  rw [hl2]; simp
 | cons x r2 =>
  have hx:l[below l r.b]? = some x:=by rw [hbl,hs,hHc]; simp
  have hle:L.length<=l.length:=by rw [hs]; simp
  rw [hx];dsimp only;have hasc2:=hasc;rw [hHc] at hasc2;have hr2:=(jl.1 hasc2).1;have hge':=hge x (by rw [hHc]; simp);have tl:(r2.filter fun x=>decide (0<bV x.b r.b))=r2:=by
   rw [xG];intro y hy;simp only [decide_eq_true_eq];have h1:=hr2 y hy;rw [qo];refine oK (b:=x.b) ?_ h1;intro hh;exact hge' hh
  by_cases h0:bV x.b r.b=0
  ·rw [h0,show ((0:Int)==0)=true from rfl,cond_true,F3 hr,al,aV,hx,al,gP,hbl,t7 (by simp [h0]),tl];rw [hs,hHc];simp
  ·have hpos:0<bV x.b r.b:=by omega
   rw [show (bV x.b r.b==0)=false from by simpa using h0,cond_false,F3 hr,al,hbl,show decide (0<=(L.length:Int))=true from decide_eq_true (by omega),show decide ((L.length:Int)<=(l.length:Int))=true from decide_eq_true (by omega),show cm (l.length+1)=true from eZ (by omega)];simp only [gd,cond_true,gP];rw [xF (by simpa using hpos),tl,hs,hHc];simp
end
section
open Go.Lib hiding intOf
section
variable {l:List aL} {b b0:ap} {m:List (ae×aE)}
theorem Cx (d:aE):aE.mk d.o d.p=d:=rfl
theorem Mz (C:bk l) {n:Nat} (hn:n<l.length):gj l (rk l n)=some true:=by
 have hl:=C.high;unfold gj vJ oF kL;have e:iY (rk l n)=some (n:Int):=by
  have h:=EN (k:=(rk l n).k) (n:=n) (by rcases vh (l:=l) (n:=n) with h | h <;> rw [h] <;> simp) (by omega);exact h
 have ho:CN l (n:Int)=some (rk l n):=by
  rw [H3 hn];unfold CN;rw [show decide ((n:Int)<0)=false by simp,show decide (((l.length:Int):Int)<=(n:Int))=false by simp; omega,show decide ((99:Int)<(n:Int))=false by simp; omega,bB hn];simp only [al,cond_false];unfold u7 H5;rw [rf (by omega)];cases l[n].q <;> simp
 rw [xX (by omega),al,cond_true,e,al,ho,al];rcases vh (l:=l) (n:=n) with h | h <;> rw [h] <;> simp
end
end
section
open Go.Lib hiding intOf
structure BG (b:ap):Prop where
 rm:NY b.s
 few:b.s.length<=100000
 ins:Rm b.i.length
 asc:Cd b.s
 kind:∀ m∈b.s,Ap m.b=false
 val:∀ m∈b.s,m.t.size<=1000000000000
 inv:∀ k,(inB b k).size<=1000000000000
noncomputable def kBq (b:ap) (k:ae):Bool:=Ap k||cH b k
noncomputable def kV (b:ap) (k:ae):ByteArray:=if Ap k=true then inB b k else (bj b.s k).1.t
def Fp (b:ap) (r:bM):Prop:=kBq b r.b=true/\r.h=uQ (kV b r.b)
structure MJ (b:ap) (m:List (ae×aE)):Prop where
 right:∀ k d,cJ aB k m=some d->kBq b k=true/\d=uQ (kV b k)
 full:∀ k,cH b k=true->(cJ aB k m).isSome=true
section
variable {b b0:ap} {m:List (ae×aE)} {k:ae}
theorem Ho (h:(bj b.s k).2=true):(bj b.s k).1∈b.s/\(bj b.s k).1.b=k:=cB h
theorem BG.ver_in (hB:BG b) (h:cH b k=true):Ap k=false:=by
 unfold cH at h;rw [lq] at h;obtain⟨f1,f2⟩:=Ho h.1;have:=hB.kind _ f1;rwa [f2] at this
theorem BG.ver_mem (hB:BG b) {m:ar} (hm:m∈b.s):cH b m.b=decide (m.u=b.r):=by
 unfold cH;rw [iX hB.asc hm rfl,t6]
theorem BG.kV_size (hB:BG b) (k:ae):(kV b k).size<=1000000000000:=by
 unfold kV;split
 ·exact hB.inv k
 ·cases h:(bj b.s k).2 with
  | true=>exact hB.val _ (Ho h).1
  | false=>rw [(rL h).1]; exact cT _
theorem MJ.put (h:MJ b m) {d:aE} (O:kBq b k=true) (hd:d=uQ (kV b k)):MJ b (ew aB k d m):=by
 refine⟨fun q e he=>?_,fun q hv=>?_⟩
 ·rw [lZ dI] at he;by_cases hqk:aB q k=true
  ·rw [if_pos hqk] at he;obtain rfl:=(dI _ _).1 hqk;rw [<- bJ he];exact⟨O,hd⟩
  ·rw [if_neg hqk] at he;exact h.right q e he
 ·rw [lZ dI];split
  ·rfl
  ·exact h.full q hv
theorem FU (hB:BG b):Ok (mR b) fun y=>y.d=b/\MJ b y.n:=by
 have hnr:=hB.few;unfold mR;refine bL (fun (j:Nat) (s:Int×(List (ae×aE)))=>s.1=j/\(∀ k d,cJ aB k s.2=some d->cH b k=true/\d=uQ (bj b.s k).1.t)/\∀ i x,i<j->b.s[i]? = some x->x.u=b.r->(cJ aB x.b s.2).isSome=true) (fun r=>MJ b r) b.s.length ⟨rfl,(fun k d h=>by cases h),fun i x hi=>absurd hi (by omega)⟩ ?_ (fun r hr=>aq ⟨rfl,hr⟩);rintro j ⟨i,m⟩ hj ⟨rfl,h1,h2⟩;dsimp only at h1 h2 ⊢;unfold qd;refine aS (fun hlt=>?_) (fun hlt=>aq ?_)
 ·have hlt:j<b.s.length:=by have:=of_decide_eq_true hlt; omega
  have hm:=dG hlt;have hx:=bh hlt;refine aX (bB hlt) (aS (fun hv=>?_) (fun hv=>aq ⟨hlt,cy (by omega),h1,fun i x hi hx2 hx3=>?_⟩))
  ·have hv:b.s[j].u=b.r:=by simpa using hv
   have hsz:=hB.val _ hm;refine aX (FI (s:=b.s[j].t) (by omega)) (aq ⟨hlt,cy (by omega),fun k d hd=>?_,fun i x hi hx2 hx3=>?_⟩)
   ·rw [lZ dI] at hd;by_cases hq:aB k b.s[j].b=true
    ·rw [if_pos hq] at hd;obtain rfl:=(dI _ _).1 hq;rw [hB.ver_mem hm,iX hB.asc hm rfl,<- bJ hd];exact⟨decide_eq_true hv,rfl⟩
    ·rw [if_neg hq] at hd;exact h1 k d hd
   ·rw [lZ dI];split
    ·rfl
    ·rename_i hne;by_cases hij:i=j
     ·subst hij;rw [hx] at hx2;obtain rfl:=bJ hx2;exact absurd ((dI _ _).2 rfl) hne
     ·exact h2 i x (by omega) hx2 hx3
  ·have hv:b.s[j].u≠b.r:=by simpa using hv
   by_cases hij:i=j
   ·subst hij;rw [hx] at hx2;obtain rfl:=bJ hx2;exact absurd hx3 hv
   ·exact h2 i x (by omega) hx2 hx3
 ·have hlt:=of_decide_eq_false hlt;have hjl:j=b.s.length:=by omega
  refine⟨fun k d hd=>?_,fun k hv=>?_⟩
  ·obtain⟨g1,g2⟩:=h1 k d hd;refine⟨by unfold kBq; rw [g1,Fa],?_⟩;rw [g2];unfold kV;rw [if_neg (by rw [hB.ver_in g1]; decide)]
  ·unfold cH at hv;rw [lq,decide_eq_true_eq] at hv;obtain⟨f1,f2⟩:=Ho hv.1;obtain⟨i,hi⟩:=dt.1 f1;have:=h2 i _ (by have:=aU hi; omega) hi hv.2;rw [f2] at this;exact this
theorem Ts (hB:BG b) (hb0:b0.i=b.i) (hm:MJ b m) (k:ae):Ok (kH ⟨b0,m⟩ k) fun y=>y.2.1=kBq b k/\(y.2.1=true->y.1=uQ (kV b k))/\MJ b y.2.2:=by
 unfold kH;dsimp only;refine aX (v:=(cJ aB k m).getD (aE.mk 0 0)) rfl ?_;cases hg:cJ aB k m with
 | some d =>
  obtain⟨h1,h2⟩:=hm.right k d hg;simp only [Gt,eE,cond_false,yZ];unfold gF gD;rw [hg];exact aq ⟨h1.symm,fun _=>h2,hm⟩
 | none =>
  simp only [Gs,mL,cond_true,Option.getD_none];unfold gF gD;refine aX (B3 k) ?_;cases hi:Ap k with
  | true =>
   simp only [cond_true];refine aX (Q6 (by rw [hb0]; exact hB.ins) _) ?_;have e:(mX b0 k).t=kV b k:=by
    unfold kV;rw [if_pos hi];show (mX b0 k).t=(mX b k).t;unfold mX;rw [hb0]
   rw [e];have h8:=hB.kV_size k;have O:kBq b k=true:=by unfold kBq; rw [hi]; rfl
   exact aX (FI (s:=kV b k) (by omega)) (aq ⟨O.symm,fun _=>rfl,hm.put O rfl⟩)
  | false =>
   simp only [cond_false];rw [hg];have hv:cH b k=false:=by
    cases hv:cH b k with
    | false=>rfl
    | true =>
     have:=hm.full _ hv;rw [hg] at this; cases this
   exact aq ⟨by unfold kBq; rw [hi,hv]; rfl,(fun h=>by cases h),hm⟩
theorem QL (hB:BG b) (hb0:b0.i=b.i) (hm:MJ b m) (r:bM):Ok (iS r ⟨b0,m⟩) fun y=>(y.1=false↔Fp b r)/\MJ b y.2:=by
 unfold iS fK;refine aP (Ts hB hb0 hm r.b) fun y ⟨y1,y2,y3⟩=>aS (fun h=>aq ⟨?_,y3⟩) (fun h=>aq ⟨?_,y3⟩)
 ·have h:y.2.1=false:=by simpa using h
  rw [y1] at h;refine⟨fun e=>(by cases e),fun e=>?_⟩;have e1:=e.1;rw [h] at e1; cases e1
 ·have h:y.2.1=true:=by simpa using h
  have y2:=y2 h;rw [y1] at h;show (!_)=false↔_;rw [y2];constructor
  ·intro e;have e:((uQ (kV b r.b)).o==r.h.o&&(uQ (kV b r.b)).p==r.h.p)=true:=by simpa using e
   rw [lq] at e;have e1:(uQ (kV b r.b)).o=r.h.o:=by simpa using e.1
   have e2:(uQ (kV b r.b)).p=r.h.p:=by simpa using e.2
   refine⟨h,?_⟩;rw [<- Cx r.h,<- e1,<- e2]
  ·intro e;rw [<- e.2];simp
theorem I3 (hB:BG b) (hb0:b0.i=b.i) (hm:MJ b m) {xs:List bM} (hn:xs.length<=1000):Ok (r7 xs ⟨b0,m⟩) fun y=>(y.1<0↔∀ r∈xs,Fp b r)/\MJ b y.2:=by
 unfold r7;refine bL (fun (j:Nat) (s:(List (ae×aE))×Int)=>s.2=j/\MJ b s.1/\∀ i r,i<j->xs[i]? = some r->Fp b r) (fun r=>match r with
   | .go m=>MJ b m/\∀ r∈xs,Fp b r
   | .out y=>MJ b y.2/\0<=y.1/\¬ ∀ r∈xs,Fp b r) xs.length ⟨rfl,hm,fun i r hi=>absurd hi (by omega)⟩ ?_ ?_
 ·rintro j ⟨m,i⟩ hj ⟨rfl,h1,h2⟩;dsimp only at h1 h2 ⊢;unfold qm;refine aS (fun hlt=>?_) (fun hlt=>aq ⟨h1,fun r hr=>?_⟩)
  ·have hlt:j<xs.length:=by have:=of_decide_eq_true hlt; omega
   refine aX (bB hlt) (aP (QL hB hb0 h1 _) fun y ⟨y1,y2⟩=>aS (fun hy=>aq ⟨y2,by show (0:Int)<=(j:Int); omega,fun hall=>?_⟩) (fun hy=>aq ⟨hlt,cy (by omega),y2,fun i r hi hr=>?_⟩))
   ·have:=y1.2 (hall _ (dG hlt));rw [hy] at this; cases this
   ·by_cases hij:i=j
    ·subst hij;rw [bh hlt] at hr;obtain rfl:=bJ hr;exact y1.1 hy
    ·exact h2 i r (by omega) hr
  ·obtain⟨i,hi⟩:=dt.1 hr;exact h2 i r (by have:=aU hi; have:=of_decide_eq_false hlt; omega) hi
 ·rintro (m | y) hr
  ·exact aq ⟨⟨fun _=>hr.2,fun _=>by show (-1:Int)<0; omega⟩,hr.1⟩
  ·exact aq ⟨⟨fun h=>absurd hr.2.1 (by omega),fun h=>absurd h hr.2.2⟩,hr.1⟩
theorem Mv (hB:BG b) (hb0:b0.i=b.i) (hm:MJ b m) {x:ac} (hx:x.v.length<=1000):Ok (iI ⟨b0,m⟩ x) fun y=>(y.1=true↔∀ r∈x.v,Fp b r)/\MJ b y.2:=by
 unfold iI rK;refine aP (Q:=fun y:Bool×(List (ae×aE))=>(y.1=false↔∀ r∈x.v,Fp b r)/\MJ b y.2) (aP (I3 hB hb0 hm hx) fun y ⟨y1,y2⟩=>aq ⟨?_,y2⟩) fun y ⟨y1,y2⟩=>aq ⟨?_,y2⟩
 ·show decide ((0:Int)<=y.1)=false↔_;rw [<- y1,decide_eq_false_iff_not];omega
 ·show (!y.1)=true↔_;rw [<- y1];simp
theorem Ke (hB:BG b) {x:ac} (hx:x.v.length<=1000):Ok (jW b x) fun y=>y=true↔∀ r∈x.v,Fp b r:=by
 unfold jW;refine aP (FU hB) fun u ⟨u1,u2⟩=>?_;obtain⟨u0,um⟩:=u;dsimp only at u1 u2;subst u1;exact aP (Mv hB rfl u2 hx) fun y ⟨y1,_⟩=>aq y1
end
end
section
open Go.Lib hiding intOf
noncomputable def P8 (b:ap) (k:ae):bM:=⟨k,uQ (kV b k)⟩
noncomputable def yz (b:ap) (m:ar):Bool:=decide (m.u=b.r)&&m.v.all (kBq b)
noncomputable def iT (b:ap) (m:ar):ac:=⟨m.b,m.v.map (P8 b),m.t,m.a⟩
noncomputable def G6 (b:ap):List ac:=(b.s.filter (yz b)).map (iT b)
section
variable {b:ap}
theorem Bj {α:Type} (p:α->Bool):∀ l:List α,(((l.filter p).length:Int)==(l.length:Int))=l.all p
 | []=>rfl
 | x::l=>by
  have ih:=Bj p l;have hle:=Fi p l;cases h:p x with
  | true =>
   rw [xF h,List.all_cons,h,t6,<- ih,dx,dx];rw [KA,beq_iff_eq,beq_iff_eq];omega
  | false =>
   rw [t7 (by rw [h]; decide),List.all_cons,h,Bool.false_and,dx];rw [beq_eq_false_iff_ne];omega
theorem ug {α:Type} {p:α->Bool} {xs:List α} {k:Nat} {x:α} (hx:xs[k]? = some x):(xs.take (k+1)).filter p=(xs.take k).filter p++(if p x=true then [x] else []):=by
 rw [bI hx,ux];congr 1;by_cases h:p x=true
 ·rw [if_pos h,xF h]; rfl
 ·rw [if_neg h,t7 h]; rfl
theorem Ex (hB:BG b):ix b=some (G6 b):=by
 have hnr:=hB.few;have key:Ok (ix b) fun y=>y=G6 b:=by
  unfold ix;refine aP (FU hB) fun u ⟨u1,u2⟩=>?_;obtain⟨u0,um⟩:=u;dsimp only at u1 u2;subst u1;refine bL (fun (j:Nat) (s:(List ac)×Int×(List (ae×aE)))=>s.2.1=j/\s.1=((u0.s.take j).filter (yz u0)).map (iT u0)/\MJ u0 s.2.2) (fun r=>r=G6 u0) u0.s.length ⟨rfl,rfl,u2⟩ ?_ (fun r hr=>aq hr);rintro j ⟨o,i,k⟩ hj ⟨h0,h1,h2⟩;dsimp only at h0 h1 h2 ⊢;subst h0 h1;unfold nK;refine aS (fun hlt=>?_) (fun hge=>aq ?_)
  ·have hlt:j<u0.s.length:=by have:=of_decide_eq_true hlt; omega
   have hm:=dG hlt;have hg:=bh hlt;have hrd:Rm u0.s[j].v.length:=hB.rm.2 _ hm;unfold Rm at hrd;generalize hme:u0.s[j]=m at hm hg hrd;refine aX ((aV _ _).trans hg) ?_;refine bL (fun (n:Nat) (s:Int×(List (ae×aE))×(List bM))=>s.1=n/\MJ u0 s.2.1/\s.2.2=((m.v.take n).filter (kBq u0)).map (P8 u0)) (fun r=>MJ u0 r.1/\r.2=(m.v.filter (kBq u0)).map (P8 u0)) m.v.length ⟨rfl,h2,rfl⟩ ?_ ?_
   ·rintro n ⟨i,k,x⟩ hn ⟨g0,g1,g2⟩;dsimp only at g0 g1 g2 ⊢;subst g0 g2;unfold nJ;refine aS (fun hlt2=>?_) (fun hge2=>aq ⟨g1,by
     have:=of_decide_eq_false hge2;rw [sI (by omega)]⟩)
    have hlt2:n<m.v.length:=by have:=of_decide_eq_true hlt2; omega
    have hg2:=bh hlt2;have hfl:=Fi (kBq u0) (m.v.take n);rw [gQ] at hfl;refine aX (bB hlt2) (aP (Ts hB rfl g1 _) fun y ⟨y1,y2,y3⟩=>aS (fun hy=>cY (eZ (by simp only [iq,mM]; omega)) (aq ⟨hlt2,cy (by omega),y3,?_⟩)) (fun hy=>aq ⟨hlt2,cy (by omega),y3,?_⟩))
    ·rw [ug hg2,if_pos (by rw [<- y1]; exact hy),wF,Cx,y2 hy];rfl
    ·rw [ug hg2,if_neg (by rw [<- y1,hy]; decide),jA]
   ·rintro⟨k2,x⟩ ⟨g1,g2⟩;dsimp only at g1 g2 ⊢;subst g2;have hfl:=Fi (yz u0) (u0.s.take j);rw [gQ] at hfl;have hj3:∀ q,(q=yz u0 m)->Ok (iF (((u0.s.take j).filter (yz u0)).map (iT u0)) (j:Int) m k2 ((m.v.filter (kBq u0)).map (P8 u0)) q) fun r=>match r with
      | .go s'=>j<u0.s.length/\(s'.2.1=((j+1:Nat):Int)/\s'.1=((u0.s.take (j+1)).filter (yz u0)).map (iT u0)/\MJ u0 s'.2.2)
      | .out r=>r=G6 u0:=fun q hq=>by
     unfold iF kx;refine aS (fun h=>cY (eZ (by simp only [iq,mM]; omega)) (aq ⟨hlt,cy (by omega),?_,g1⟩)) (fun h=>aq ⟨hlt,cy (by omega),?_,g1⟩)
     ·rw [ug hg,if_pos (by rw [<- hq]; exact h),wF];have h9:m.v.filter (kBq u0)=m.v:=by
       have:yz u0 m=true:=by rw [<- hq]; exact h
       unfold yz at this;rw [lq] at this;exact xG.2 (Iu.1 this.2)
      rw [h9];rfl
     ·rw [ug hg,if_neg (by rw [<- hq,h]; decide),jA]
    unfold kz;refine aS (fun hv=>(hj3 _ ?_).mono fun y hy=>by cases y <;> exact hy) (fun hv=>(hj3 _ ?_).mono fun y hy=>by cases y <;> exact hy)
    ·unfold yz;rw [decide_eq_true (by simpa using hv),t6,iq,Bj]
    ·unfold yz;rw [decide_eq_false (by simpa using hv),Bool.false_and]
  ·have:=of_decide_eq_false hge;unfold G6;rw [sI (by omega)]
 obtain⟨y,e,rfl⟩:=key;exact e
end
end
section
open Go.Lib hiding intOf
theorem H0 {q:ar}:∀ {l:List ar},(∀ m∈l,m.b≠q.b)->(eY l q).length=l.length+1
 | [],_=>rfl
 | x::l,h=>by
  have ih:=H0 (q:=q) (l:=l) fun m hm=>h m (lp _ hm);have hx:=h x dF;unfold eY at ih ⊢;rw [br,dx] at ih ⊢;rw [List.filter_cons,List.filter_cons,dx];have h0:bV x.b q.b≠0:=fun e=>hx (K5.1 e);by_cases h1:bV x.b q.b<0
  ·rw [decide_eq_true h1,decide_eq_false (by omega)];simp only [if_true,DG,if_false,dx];omega
  ·rw [decide_eq_false h1,decide_eq_true (by omega)];simp only [if_true,DG,if_false,dx];omega
abbrev wr (b:ap) (recs:List ar):ap:=⟨b.r,b.i,recs⟩
def jz (b:ap) (x:ac):ar:=⟨x.b,x.t,x.v.map bM.b,b.r,b.r,x.a,false⟩
section
variable {l:List aL} {b:ap} {arts:List ac} {recs:List ar} {g:List ae}
def HI (recs:List ar) (h:List (ae×Bool)):Prop:=∀ k,(cJ aB k h).getD false=true↔∃ m∈recs,m.b=k
theorem HI.step {h:List (ae×Bool)} (hh:HI recs h) {x:ac} (hc:∀ m∈recs,m.b≠x.b):HI (eY recs (jz b x)) (ew aB x.b true h):=fun k=>by
 rw [lZ dI];by_cases hq:aB k x.b=true
 ·rw [if_pos hq];obtain rfl:=(dI _ _).1 hq;exact⟨fun _=>⟨jz b x,gk.2 (.inl rfl),rfl⟩,fun _=>rfl⟩
 ·rw [if_neg hq,hh k];constructor
  ·rintro⟨m,hm,e⟩;exact⟨m,gk.2 (.inr ⟨hm,hc m hm⟩),e⟩
  ·rintro⟨m,hm,e⟩;rcases gk.1 hm with rfl | ⟨hm,_⟩
   ·exact absurd ((dI _ _).2 e.symm) hq
   ·exact⟨m,hm,e⟩
theorem OJ {xs:List bM} (hn:xs.length<=1000) {x:ac} (e:x.v=xs):loop (fun s:Int×(List ae)=>iG x s.1 s.2) (0,([]:List ae))=some (xs.map bM.b):=by
 subst e;refine eh (xs:=x.v) (fun k=>((k:Int),(x.v.take k).map bM.b)) rfl (fun k r hr=>?_) ?_
 ·have O:=aU hr;dsimp only;unfold iG;rw [dlt O,cond_true,aV,hr,al,eZ (by simp; omega)];simp only [gd,cond_true];rw [cy (by omega),bI hr,wF]; rfl
 ·dsimp only;unfold iG;rw [bZ,cond_false,f9]
end
end
section
open Go.Lib hiding intOf
noncomputable def Ft (l:List aL) (k:ae):Bool:=(gj l k).getD false
def wM (l:List aL) (b:ap) (recs:List ar) (x:ac):Prop:=Ft l x.b=true/\(∀ m∈recs,m.b≠x.b)/\∀ r∈x.v,Fp (wr b recs) r
section
variable {l:List aL} {b:ap} {recs:List ar} {x:ac}
theorem HI.has {hs:List (ae×Bool)} (hh:HI recs hs) {k:ae} (h:(cJ aB k hs).getD false=false):∀ m∈recs,m.b≠k:=fun m hm e=>by
 have:=(hh k).2 ⟨m,hm,e⟩;rw [this] at h; cases h
theorem Qz (hask:gj l x.b=some (Ft l x.b)) (hB:BG (wr b recs)) {m:List (ae×aE)} (hm:MJ (wr b recs) m) {hs:List (ae×Bool)} (hh:HI recs hs) (hx:qV x):Ok (lW x l hs ⟨b,m⟩) fun y=>(y.1=true↔wM l b recs x)/\y.2.1=hs/\MJ (wr b recs) y.2.2:=by
 have hf:=hx.few;unfold lW fU;refine aX hask (aS (fun ha=>?_) (fun ha=>aq ⟨?_,rfl,hm⟩))
 ·refine aX (v:=(cJ aB x.b hs).getD false) rfl (aS (fun hq=>?_) (fun hq=>aq ⟨?_,rfl,hm⟩))
  ·refine aP (Mv hB rfl hm hf) fun y ⟨y1,y2⟩=>aq ⟨?_,rfl,y2⟩;have hno:=hh.has (k:=x.b) (by simpa using hq);exact⟨fun hy=>⟨ha,hno,y1.1 hy⟩,fun hy=>y1.2 hy.2.2⟩
  ·have hq:(cJ aB x.b hs).getD false=true:=by simpa using hq
   obtain⟨q,q1,q2⟩:=(hh x.b).1 hq;exact⟨fun h=>(by cases h),fun h=>absurd q2 (h.2.1 q q1)⟩
 ·exact⟨fun h=>(by cases h),fun h=>absurd (h.1.symm.trans ha) (by decide)⟩
inductive GH (l:List aL) (b:ap) (recs:List ar) (arts:List ac):Option (Nat×ac)->Prop
 | stop:(∀ x∈arts,¬ wM l b recs x)->GH l b recs arts none
 | «at» {i:Nat} {x:ac}:arts[i]? = some x->wM l b recs x->(∀ (j:Nat) (y:ac),j<i->arts[j]? = some y->¬ wM l b recs y)->GH l b recs arts (some (i,x))
theorem GH.ex (arts:List ac):∃ o,GH l b recs arts o:=by
 by_cases h:∃ i:Nat,∃ x:ac,arts[i]? = some x/\wM l b recs x
 ·obtain⟨i,⟨x,h1,h2⟩,h3⟩:∃ i:Nat,(∃ x:ac,arts[i]? = some x/\wM l b recs x)/\∀ j:Nat,j<i->¬ ∃ x:ac,arts[j]? = some x/\wM l b recs x:=by
   obtain⟨i,hi⟩:=h
   induction i using Nat.strongRecOn with
   | ind i ih =>
    by_cases hj:∃ j:Nat,j<i/\∃ x:ac,arts[j]? = some x/\wM l b recs x
    ·obtain⟨j,h1,h2⟩:=hj;exact ih j h1 h2
    ·exact⟨i,hi,fun j h1 h2=>hj ⟨j,h1,h2⟩⟩
  exact⟨some (i,x),.«at» h1 h2 fun j y hj hy hc=>h3 j hj ⟨y,hy,hc⟩⟩
 ·exact⟨none,.stop fun x hx hc=>by
   obtain⟨i,hi⟩:=dt.1 hx;exact h ⟨i,x,hi,hc⟩⟩
theorem MZ {arts:List ac} (hask:∀ x∈arts,gj l x.b=some (Ft l x.b)) (hB:BG (wr b recs)) {m:List (ae×aE)} (hm:MJ (wr b recs) m) {hs:List (ae×Bool)} (hh:HI recs hs) (ha:∀ x∈arts,qV x) (hn:arts.length<=1000) {o:Option (Nat×ac)} (ho:GH l b recs arts o):Ok (mY arts l hs ⟨b,m⟩) fun y=>y.2.1=hs/\MJ (wr b recs) y.2.2/\y.1=(match o with | none=>-1 | some p=>(p.1:Int)):=by
 unfold mY;refine bL (fun (j:Nat) (s:(List (ae×Bool))×(List (ae×aE))×Int)=>s.2.2=j/\s.1=hs/\MJ (wr b recs) s.2.1/\∀ i x,i<j->arts[i]? = some x->¬ wM l b recs x) (fun r=>match r with
   | .go s=>s.1=hs/\MJ (wr b recs) s.2/\o=none
   | .out y=>y.2.1=hs/\MJ (wr b recs) y.2.2/\y.1=(match o with | none=>-1 | some p=>(p.1:Int))) arts.length ⟨rfl,rfl,hm,fun i x hi=>absurd hi (by omega)⟩ ?_ ?_
 ·rintro j ⟨q,m,i⟩ hj ⟨rfl,rfl,h1,h2⟩;dsimp only at h1 h2 ⊢;unfold mF;refine aS (fun hlt=>?_) (fun hlt=>aq ⟨rfl,h1,?_⟩)
  ·have hlt:j<arts.length:=by have:=of_decide_eq_true hlt; omega
   have hx:=bh hlt;refine aX (bB hlt) (aP (Qz (hask _ (dG hlt)) hB h1 hh (ha _ (dG hlt))) fun y ⟨y1,y2,y3⟩=>aS (fun hy=>aq ⟨y2,y3,?_⟩) (fun hy=>aq ⟨hlt,cy (by omega),y2,y3,fun i x hi hx2 hc=>?_⟩))
   ·have hc:=y1.1 hy;cases ho with
    | stop h=>exact absurd hc (h _ (dG hlt))
    | @«at» i x h3 h4 h5 =>
     show (j:Int)=(i:Int);rcases Gq i j with h | h | h
     ·exact absurd h4 (h2 i x h h3)
     ·rw [h]
     ·exact absurd hc (h5 j _ h hx)
   ·by_cases hij:i=j
    ·subst hij;rw [hx] at hx2;obtain rfl:=bJ hx2;rw [y1.2 hc] at hy; cases hy
    ·exact h2 i x (by omega) hx2 hc
  ·cases ho with
   | stop h=>rfl
   | @«at» i x h3 h4 h5 =>
    exact absurd h4 (h2 i x (by have:=aU h3; have:=of_decide_eq_false hlt; omega) h3)
 ·rintro (s | y) hr
  ·unfold Fl.el mE;obtain⟨r1,r2,rfl⟩:=hr;exact aq ⟨r1,r2,rfl⟩
  ·exact aq hr
end
end
section
open Go.Lib hiding intOf
structure RJ (b:ap) (arts:List ac) (recs:List ar) (g:List ae):Prop where
 bg:BG (wr b recs)
 len:recs.length=b.s.length+g.length
 nd:g.Nodup
 has:∀ k∈g,∃ m∈recs,m.b=k
 sub:∀ k∈g,k∈arts.map ac.b
theorem qV.kind {x:ac} (h:qV x):Ap x.b=false:=by
 have hv:=h.v;unfold DP at hv;simp only [lq,sw] at hv;exact hv.1.1.1.2
section
variable {l:List aL} {b:ap} {arts:List ac} {recs:List ar} {g:List ae} {x:ac}
theorem RJ.few (h:RJ b arts recs g):g.length<=arts.length:=by
 have:=kS h.nd h.sub;rwa [iq] at this
theorem RJ.step (hb:b.s.length<=2000) (hn:arts.length<=1000) (h:RJ b arts recs g) (hxa:x∈arts) (hx:qV x) (hno:∀ m∈recs,m.b≠x.b):RJ b arts (eY recs (jz b x)) (g++[x.b]):=by
 have hlen:=H0 (q:=jz b x) hno;have h1:=h.len;have h2:=h.few;have hf:=hx.few;refine⟨⟨⟨?_,fun m hm=>?_⟩,?_,h.bg.ins,CX h.bg.asc _,fun m hm=>?_,fun m hm=>?_,h.bg.inv⟩,?_,?_,fun k O=>?_,fun k O=>?_⟩
 ·show Rm (eY recs (jz b x)).length;rw [hlen]; unfold Rm; omega
 ·rcases gk.1 hm with rfl | ⟨hm,_⟩
  ·show Rm (x.v.map bM.b).length;rw [iq]; unfold Rm; omega
  ·exact h.bg.rm.2 m hm
 ·show (eY recs (jz b x)).length<=100000;rw [hlen]; omega
 ·rcases gk.1 hm with rfl | ⟨hm,_⟩
  ·exact hx.kind
  ·exact h.bg.kind m hm
 ·rcases gk.1 hm with rfl | ⟨hm,_⟩
  ·have:=hx.rd.value;show x.t.size<=_;omega
  ·exact h.bg.val m hm
 ·rw [hlen,h1,br,mM]; omega
 ·refine List.nodup_append.2 ⟨h.nd,yW.2 ⟨cF,List.nodup_nil⟩,fun a ha c hc=>?_⟩;rw [cp.1 hc];rintro rfl;obtain⟨m,m1,m2⟩:=h.has _ ha;exact hno m m1 m2
 ·rcases cM.1 O with O | O
  ·obtain⟨m,m1,m2⟩:=h.has k O;exact⟨m,gk.2 (.inr ⟨m1,hno m m1⟩),m2⟩
  ·rw [cp.1 O];exact⟨jz b x,gk.2 (.inl rfl),rfl⟩
 ·rcases cM.1 O with O | O
  ·exact h.sub k O
  ·rw [cp.1 O];exact wc hxa
theorem MJ.step (hB:BG (wr b recs)) {m:List (ae×aE)} (hm:MJ (wr b recs) m) (hx:qV x) (hno:∀ m∈recs,m.b≠x.b):MJ (wr b (eY recs (jz b x))) (ew aB x.b (uQ x.t) m):=by
 have hfl:∀ k,bj (eY recs (jz b x)) k=if k=x.b then (jz b x,true) else bj recs k:=xL hB.asc _;have hv:∀ k,k≠x.b->cH (wr b (eY recs (jz b x))) k=cH (wr b recs) k:=fun k O=>by
  unfold cH;rw [show (wr b (eY recs (jz b x))).s=eY recs (jz b x) from rfl,hfl k,if_neg O]
 have hvx:cH (wr b (eY recs (jz b x))) x.b=true:=by
  unfold cH;rw [show (wr b (eY recs (jz b x))).s=eY recs (jz b x) from rfl,hfl x.b,if_pos rfl,t6];exact decide_eq_true rfl
 refine⟨fun k d hd=>?_,fun k O=>?_⟩
 ·rw [lZ dI] at hd;by_cases hq:aB k x.b=true
  ·rw [if_pos hq] at hd;obtain rfl:=(dI _ _).1 hq;refine⟨by unfold kBq; rw [hvx,Fa],?_⟩;rw [<- bJ hd];unfold kV;rw [if_neg (by rw [hx.kind]; decide),show (wr b (eY recs (jz b x))).s=eY recs (jz b x) from rfl,hfl x.b,if_pos rfl];rfl
  ·rw [if_neg hq] at hd;have hkx:k≠x.b:=fun e=>hq ((dI _ _).2 e);obtain⟨h1,h2⟩:=hm.right k d hd;refine⟨?_,?_⟩
   ·unfold kBq at h1 ⊢;rw [hv k hkx]; exact h1
   ·rw [h2];unfold kV;rw [show (wr b (eY recs (jz b x))).s=eY recs (jz b x) from rfl,hfl k,if_neg hkx];rfl
 ·rw [lZ dI];split
  ·rfl
  ·rename_i hne;have hkx:k≠x.b:=fun e=>hne ((dI _ _).2 e);rw [hv k hkx] at O;exact hm.full k O
inductive N2 (l:List aL) (b:ap) (arts:List ac):List ar->List ae->List ar×List ae->Prop
 | stop {recs:List ar} {g:List ae}:GH l b recs arts none->N2 l b arts recs g (recs,g)
 | step {recs:List ar} {g:List ae} {i:Nat} {x:ac} {out:List ar×List ae}:GH l b recs arts (some (i,x))->N2 l b arts (eY recs (jz b x)) (g++[x.b]) out->N2 l b arts recs g out
theorem Nk (hb:b.s.length<=2000) (hn:arts.length<=1000) (ha:∀ x∈arts,qV x):∀ (n:Nat) (recs:List ar) (g:List ae),RJ b arts recs g->arts.length<=g.length+n->∃ out,N2 l b arts recs g out
 | n,recs,g,h,hl=>by
  obtain⟨o,ho⟩:=GH.ex (l:=l) (b:=b) (recs:=recs) arts;cases o with
  | none=>exact⟨_,.stop ho⟩
  | some p =>
   obtain⟨i,x⟩:=p;have hp:=ho;cases hp with
   | «at» h1 h2 h3 =>
    have hxa:=az h1;have hst:=h.step hb hn hxa (ha x hxa) h2.2.1;have hfew:=hst.few;rw [br,mM] at hfew;cases n with
    | zero=>omega
    | succ n =>
     obtain⟨out,ho2⟩:=Nk hb hn ha n _ _ hst (by rw [br,mM]; omega);exact⟨out,.step ho ho2⟩
theorem Vi (hask:∀ x∈arts,gj l x.b=some (Ft l x.b)) (hb:b.s.length<=2000) (hn:arts.length<=1000) (ha:∀ x∈arts,qV x) {K:dU} (hK:K.d=b) {out:List ar×List ae} (hr:N2 l b arts recs g out):∀ (m:List (ae×aE)) (hs:List (ae×Bool)),RJ b arts recs g->MJ (wr b recs) m->HI recs hs ->
  ∃ s,rh out.2=some s/\loop (fun s:(List (ae×aE))×(List (ae×Bool))×(List ae)×(List ar)=>iH l b arts b K s.1 s.2.1 s.2.2.1 s.2.2.2) (m,hs,g,recs)=some (wr b out.1,s,0):=by
 induction hr with
 | @stop recs g ho =>
  intro m hs C hm hh;have hfew:=C.few;obtain⟨s,hs1,hs2⟩:=EY (l:=g) (by unfold Rm; omega);obtain⟨y,e,y1,y2,y3⟩:=MZ hask C.bg hm hh ha hn ho;refine⟨s,hs1,cR ?_⟩;dsimp only;unfold iH;rw [hK,e,al,y3,show decide ((-1:Int)<0)=true from rfl,cond_true,hs1,al]
 | @step recs g i x out ho hr ih =>
  intro m hs C hm hh;have hp:=ho;cases hp with
  | «at» h1 h2 h3 =>
   have hxa:=az h1;have hx:=ha x hxa;have hst:=C.step hb hn hxa hx h2.2.1;obtain⟨y,e,y1,y2,y3⟩:=MZ hask C.bg hm hh ha hn ho;obtain⟨s,i1,i2⟩:=ih (ew aB x.b (uQ x.t) y.2.2) (ew aB x.b true y.2.1) hst (MJ.step C.bg y2 hx h2.2.1) (by rw [y1]; exact hh.step h2.2.1);refine⟨s,i1,?_⟩;rw [<- i2];refine eV ?_;have hlen:=C.len;have hfew:=C.few;have hv:=hx.rd.value;have hf:=hx.few;dsimp only;unfold iH;rw [hK,e,al,y3];dsimp only;rw [decide_eq_false (by omega),cond_false,decide_eq_false (by omega),cond_false,aV,h1,al,OJ (by omega) rfl,al];unfold kG nL;have hput:ru recs ⟨x.b,x.t,x.v.map bM.b,b.r,b.r,x.a,false⟩=some (eY recs (jz b x)):=Q3 (l:=recs) (r:=jz b x) C.bg.asc C.bg.rm (by show Rm (x.v.map bM.b).length; unfold Rm; rw [iq]; omega);rw [hput,al,FI (s:=x.t) (by omega),al,eZ (by rw [mM]; omega)];rfl
end
end
section
open Go.Lib hiding intOf
section
variable {l:List aL} {b:ap} {arts:List ac} {recs:List ar} {g:List ae} {x:ac}
theorem Q8 (hb:b.s.length<=2000) (hn:arts.length<=1000) (ha:∀ x∈arts,qV x) {out:List ar×List ae} (hr:N2 l b arts recs g out):RJ b arts recs g->RJ b arts out.1 out.2:=by
 induction hr with
 | stop ho=>exact id
 | @step recs g i x out ho hr ih =>
  intro C;have hp:=ho;cases hp with
  | «at» h1 h2 h3 =>
   have hxa:=az h1;exact ih (C.step hb hn hxa (ha x hxa) h2.2.1)
theorem OG (hn:b.s.length<=100000):Ok (loop (fun s:Int×(List (ae×Bool))=>fV b s.1 s.2) (0,([]:List (ae×Bool)))) fun r=>HI b.s r:=by
 have key:Ok ((loop (fun s:Int×(List (ae×Bool))=>fV b s.1 s.2) (0,([]:List (ae×Bool)))).bind fun r=>some r) fun r=>HI b.s r:=by
  refine bL (fun (j:Nat) (s:Int×(List (ae×Bool)))=>s.1=j/\HI (b.s.take j) s.2) (fun r=>HI b.s r) b.s.length ⟨rfl,fun k=>⟨fun h=>(by cases h),fun ⟨m,hm,_⟩=>absurd hm (by simp)⟩⟩ ?_ (fun r hr=>aq hr);rintro j ⟨i,h⟩ hj ⟨rfl,h1⟩;dsimp only at h1 ⊢;unfold fV;refine aS (fun hlt=>?_) (fun hlt=>aq (by rw [sI (by have:=of_decide_eq_false hlt; omega)] at h1; exact h1));have hlt:j<b.s.length:=by have:=of_decide_eq_true hlt; omega
  refine aX (bB hlt) (aq ⟨hlt,cy (by omega),fun k=>?_⟩);rw [lZ dI,bI (bh hlt)];by_cases hq:aB k b.s[j].b=true
  ·rw [if_pos hq];exact⟨fun _=>⟨_,ov _ (cp.2 rfl),((dI _ _).1 hq).symm⟩,fun _=>rfl⟩
  ·rw [if_neg hq,h1 k];constructor
   ·rintro⟨m,hm,e⟩; exact⟨m,mb _ hm,e⟩
   ·rintro⟨m,hm,e⟩;rcases cM.1 hm with hm | hm
    ·exact⟨m,hm,e⟩
    ·rw [cp.1 hm] at e;exact absurd ((dI _ _).2 e.symm) hq
 obtain⟨y,e,hy⟩:=key;refine⟨y,?_,hy⟩;cases h:loop (fun s:Int×(List (ae×Bool))=>fV b s.1 s.2) (0,([]:List (ae×Bool))) with
 | none=>rw [h] at e; cases e
 | some z=>rw [h] at e; exact e
theorem Li (hv1:ti l=some true) (hb1:lh b=some true) (hc1:mp b=some b) (hB:BG b) (hb:b.s.length<=2000) (hn:arts.length<=1000) (ha:∀ x∈arts,qV x) (hask:∀ x∈arts,gj l x.b=some (Ft l x.b)) :
  ∃ out s,N2 l b arts b.s [] out/\RJ b arts out.1 out.2/\wi out.2 s/\iy l b arts=some (wr b out.1,s,0):=by
 have hRJ:RJ b arts b.s []:=⟨hB,by simp,List.nodup_nil,fun k O=>absurd O cF,fun k O=>absurd O cF⟩;obtain⟨out,hout⟩:=Nk (l:=l) hb hn ha arts.length b.s [] hRJ (by simp);obtain⟨K,k0,k1,k2⟩:=FU hB;obtain⟨h0,e0,hh0⟩:=OG (b:=b) (by omega);obtain⟨s,s1,s2⟩:=Vi hask hb hn ha k1 hout K.n h0 hRJ k2 hh0;have hRJ2:=Q8 hb hn ha hout hRJ;obtain⟨m,m1,m2⟩:=EY (l:=out.2) (by have:=hRJ2.few; unfold Rm; omega);have e1:s=m:=by rw [s1] at m1; exact bJ m1
 subst e1;refine⟨out,s,hout,hRJ2,m2,?_⟩;unfold iy;rw [hv1,hb1,yV ha (by omega)];simp only [al,eE,cond_false];rw [hc1,al,k0,al,e0,al];unfold nM;rw [s2];rfl
end
section
variable {l:List aL} {b:ap}
theorem zX {n:Nat}:Ap (rk l n)=false:=by
 have h:=B3 (rk l n);rw [Av,oW] at h;exact (bJ h).symm
theorem JE (hl:l.length<=8) (hB:jo l b) (r:Int) {recs:List ar} (hs:recs=b.s∨recs=[]):BG ⟨r,b.i,recs⟩:=by
 have h1:=hB.nrec;have h2:=(hB.rm hl).2.1;have hi:∀ k,(inB ⟨r,b.i,recs⟩ k).size<=1000000000000:=fun k=>by
  have:=hB.in8 k;show (inB b k).size<=_;omega
 rcases hs with rfl | rfl
 ·refine⟨(hB.rm hl).1,by show b.s.length<=100000; omega,h2,hB.recsA,fun m hm=>?_,fun m hm=>?_,hi⟩
  ·obtain⟨n,_,e⟩:=(hB.recs m hm).key;rw [e]; exact zX
  ·have:=(hB.recs m hm).value;omega
 ·exact⟨⟨by unfold Rm; simp,fun m hm=>absurd hm cF⟩,by simp,h2,sA,fun m hm=>absurd hm cF,fun m hm=>absurd hm cF,hi⟩
theorem LT (C:bk l) {x:ac} (h:iR l x):qV x:=by
 have hrd:=(Qt C h).1;obtain⟨h1,h2⟩:=h.reads C;have h3:=hrd.text;have hb:GA x:=⟨by omega,by omega,fun r hr=>by have:=(hrd.reads r hr).text; omega⟩;have hv:=KU C h;rw [(GO hb).1] at hv;exact⟨hb,bJ hv,hrd,by omega⟩
end
theorem Ax {rs:List Bool} {i:Nat} (h:rs[i]? ≠ some true):B5 rs i=i:=by
 unfold B5;rw [if_neg h]
theorem GL:∀ {a b:List ar},Cd a->Cd b->(∀ x,x∈a↔x∈b)->a=b
 | [],[],_,_,_=>rfl
 | [],y::b,_,_,h=>by have:=(h y).2 dF; cases this
 | x::a,[],_,_,h=>by have:=(h x).1 dF; cases this
 | x::a,y::b,ha,hb,h=>by
  have ha':=jl.1 ha;have hb':=jl.1 hb;have e:x=y:=by
   rcases bC.1 ((h x).1 dF) with e | h1
   ·exact e
   ·rcases bC.1 ((h y).2 dF) with e | h2
    ·exact e.symm
    ·exact absurd (hb'.1 x h1) (As (ha'.1 y h2))
  subst e;rw [GL ha'.2 hb'.2 fun z=>?_];constructor
  ·intro hz;rcases bC.1 ((h z).1 (lp _ hz)) with e | h1
   ·subst e; exact absurd (ha'.1 z hz) w9
   ·exact h1
  ·intro hz;rcases bC.1 ((h z).2 (lp _ hz)) with e | h1
   ·subst e; exact absurd (hb'.1 z hz) w9
   ·exact h1
section
variable {l:List aL} {b:ap} {arts:List ac} {recs:List ar} {g:List ae} {out:List ar×List ae}
theorem Nl (hr:N2 l b arts recs g out):(∀ m∈recs,∃ x∈arts,m=jz b x)->∀ m∈out.1,∃ x∈arts,m=jz b x:=by
 induction hr with
 | stop ho=>exact id
 | @step recs g i x out ho hr ih =>
  intro h;have hp:=ho;cases hp with
  | «at» h1 h2 h3 =>
   refine ih fun m hm=>?_;rcases gk.1 hm with rfl | ⟨hm,_⟩
   ·exact⟨x,az h1,rfl⟩
   ·exact h m hm
theorem O0 (hr:N2 l b arts recs g out):∀ x∈arts,¬ wM l b out.1 x:=by
 induction hr with
 | @stop recs g ho =>
  cases ho with
  | stop h=>exact h
 | step ho hr ih=>exact ih
abbrev lr (b:ap):ap:=⟨b.r,b.i,[]⟩
theorem nN {c:Nat}:Ap (bO c)=true:=by
 have h:=B3 (bO c);rw [Av,mS] at h;exact (bJ h).symm
section
variable {H:Int->ae->ByteArray} (C:bk l) (hno:∀ i:Nat,(aW l)[i]? ≠ some true) (hB:jo l b) (hV:VI l H b LD) (hF:mO b LD) (U:Cd out.1)
 (hend:∀ x∈b.s.map (iT b),¬ wM l (lr b) out.1 x) (hfrom:∀ m∈out.1,∃ x∈b.s.map (iT b),m=jz (lr b) x)
include C hno hB hV hF U hend hfrom
theorem Lx:∀ n,∀ m∈b.s,m.b=rk l n->n<l.length->∃ q∈out.1,q.b=m.b:=by
 intro n
 induction n using Nat.strongRecOn with
 | ind n ih =>
  intro m hm O hn;by_cases hc:∃ q∈out.1,q.b=m.b
  ·exact hc
  refine absurd ⟨?_,fun q hq e=>hc ⟨q,hq,e⟩,fun r hr=>?_⟩ (hend (iT b m) (wc hm))
  ·show Ft l m.b=true;rw [O];unfold Ft;rw [Mz C hn];rfl
  ·obtain⟨k,hkm,rfl⟩:=cL.1 (show r∈m.v.map (P8 b) from hr);have hln:l[n]? = some l[n]:=bh hn;have hrd:=(hV.recv m hm n l[n] hln O).2;rcases tc C hln (show k∈kT l (H m.u) (Vd l (H m.u)) l[n] l[n].c.length by rw [<- hrd]; exact hkm) with⟨c,_,rfl⟩|⟨j,hj1,hj2,rfl⟩
   ·refine⟨?_,?_⟩
    ·show kBq _ (bO c)=true;unfold kBq;rw [nN]; rfl
    ·show uQ (kV b (bO c))=uQ (kV (wr (lr b) out.1) (bO c));unfold kV;rw [if_pos nN,if_pos nN]; rfl
   ·have hj:j<n:=by rw [Ax (hno n)] at hj1; exact hj1
    have hv:cH b (rk l j)=true:=by
     rcases (hF m hm).2 _ hkm with⟨c,e⟩ | h | h
     ·exact absurd e.symm rI
     ·exact h
     ·exact h.elim
    have hv2:=hv;unfold cH at hv2;rw [lq] at hv2;obtain⟨f1,f2⟩:=Ho hv2.1;obtain⟨q,hq,e⟩:=ih j hj _ f1 f2 hj2;obtain⟨x,hx,rfl⟩:=hfrom q hq;obtain⟨m2,hm2,rfl⟩:=cL.1 hx;have e2:m2.b=rk l j:=e.trans f2;have hfm:bj b.s (rk l j)=(m2,true):=iX hB.recsA hm2 e2;have hfo:bj out.1 (rk l j)=(jz (lr b) (iT b m2),true):=iX U hq e2;have hfo2:bj (wr (lr b) out.1).s (rk l j)=(jz (lr b) (iT b m2),true):=hfo;refine⟨?_,?_⟩
    ·show kBq _ (rk l j)=true;unfold kBq cH;rw [hfo2,decide_eq_true (show (jz (lr b) (iT b m2)).u=(wr (lr b) out.1).r from rfl)];simp
    ·show uQ (kV b (rk l j))=uQ (kV (wr (lr b) out.1) (rk l j));unfold kV;rw [if_neg (by rw [zX]; decide),if_neg (by rw [zX]; decide),hfm,hfo2];rfl
theorem NK:out.1=b.s.map fun m=>jz (lr b) (iT b m):=by
 refine GL U (Dz.2 hB.recsA) fun q=>⟨fun hq=>?_,fun hq=>?_⟩
 ·obtain⟨x,hx,rfl⟩:=hfrom q hq;obtain⟨m,hm,rfl⟩:=cL.1 hx;exact wc hm
 ·obtain⟨m,hm,rfl⟩:=cL.1 hq;obtain⟨n,hn,O⟩:=(hB.recs m hm).key;obtain⟨q,hq,e⟩:=Lx C hno hB hV hF U hend hfrom n m hm O hn;obtain⟨x,hx,rfl⟩:=hfrom q hq;obtain⟨m2,hm2,rfl⟩:=cL.1 hx;have e2:m2.b=m.b:=e;have h1:=iX hB.recsA hm2 e2;have h2:=iX hB.recsA hm rfl;have h3:m2=m:=congrArg Prod.fst (h1.symm.trans h2);rw [<- h3];exact hq
end
theorem Hs (hF:mO b LD):b.s.filter (yz b)=b.s:=by
 refine xG.2 fun m hm=>?_;obtain⟨h1,h2⟩:=hF m hm;unfold yz;rw [decide_eq_true h1,t6];refine Iu.2 fun k O=>?_;unfold kBq;rcases h2 k O with⟨c,rfl⟩ | h | h
 ·rw [nN]; rfl
 ·rw [h,Fa]
 ·exact h.elim
theorem EC (hF:mO b LD):G6 b=b.s.map (iT b):=by
 unfold G6;rw [Hs hF]
end
section
variable {l:List aL} {b:ap} {H:Int->ae->ByteArray} {P:ae->Prop}
theorem LS (C:bk l) (hB:jo l b) (hV:VI l H b P) {m:ar} (hm:m∈b.s) (hc:yz b m=true):iR l (iT b m):=by
 have hin:inB b=H b.r:=funext hV.now;have hm':=hB.recs _ hm;have hl:=C.high;unfold yz at hc;rw [lq,decide_eq_true_eq] at hc;obtain⟨n,hn,e⟩:=hm'.key;obtain⟨e1,e2⟩:=hV.recv _ hm n _ (bh hn) e;rw [hc.1,<- hin] at e1 e2;refine⟨hm'.cost,inB b,n,l[n],hB.in8,bh hn,e,e1,?_⟩;show m.v.map (P8 b)=_;rw [<- e2];refine Fk fun k O=>?_;show bM.mk k (uQ (kV b k))=bM.mk k (uQ (vK l (inB b) k));have hk2:=Iu.1 hc.2 k O;have hv:kV b k=vK l (inB b) k:=by
  rcases hm'.good k O with⟨c,_,rfl⟩|⟨j,hj,rfl⟩
  ·unfold kV;rw [if_pos nN,ur]
  ·unfold kBq at hk2;rw [zX,E9] at hk2;unfold cH at hk2;rw [lq,decide_eq_true_eq] at hk2;obtain⟨f1,f2⟩:=Ho hk2.1;unfold kV;rw [if_neg (by rw [zX]; decide),(hV.recv _ f1 j _ (bh hj) f2).1,hk2.2,<- hin,yu (by omega)]
 rw [hv]
theorem OC (hF:mO b LD) {m:ar} (hm:m∈b.s):yz b m=true:=by
 have:=Hs hF;rw [xG] at this;exact this m hm
end
theorem wi.len_eq {g s:List ae} (h:wi g s) (hn:g.Nodup):s.length=g.length:=by
 refine Nat.le_antisymm h.len (kS hn fun k O=>(h.mem k).2 O)
theorem Il {l:List aL} {b:ap} {H:Int->ae->ByteArray} (C:bk l) (hno:∀ i:Nat,(aW l)[i]? ≠ some true) (hB:jo l b) (hV:VI l H b LD) (hF:mO b LD) :
  (∀ x∈b.s.map (iT b),iR l x)/\BG (lr b)/\∃ s,s.length=b.s.length/\iy l (lr b) (b.s.map (iT b))=some (wr (lr b) (b.s.map fun m=>jz (lr b) (iT b m)),s,0):=by
 have hl:=C.high;have hnr:=hB.nrec;have U:∀ x∈b.s.map (iT b),iR l x:=fun x hx=>by
  obtain⟨m,hm,rfl⟩:=cL.1 hx;exact LS C hB hV hm (OC hF hm)
 have hBn:jo l (lr b):=⟨hB.rev,hB.ins,hB.insA,fun x hx=>absurd hx cF,sA⟩;have hBG:BG (lr b):=JE hl hB b.r (.inr rfl);refine⟨U,hBG,?_⟩;obtain⟨out,s,o1,o2,o3,o4⟩:=Li (b:=lr b) (arts:=b.s.map (iT b)) (by rw [Ls C.bnd,CP C]) (Nb hBn hl) (OZ hBn hl) hBG (by show ([]:List ar).length<=2000; simp) (by rw [iq]; omega) (fun x hx=>LT C (U x hx)) (fun x hx=>by
  obtain⟨m,hm,rfl⟩:=cL.1 hx;obtain⟨n,hn,e⟩:=(hB.recs m hm).key;show gj l m.b=some (Ft l m.b);unfold Ft;rw [e,Mz C hn]; rfl)
 have hout:=NK C hno hB hV hF o2.bg.asc (O0 o1) (Nl o1 fun m hm=>absurd hm cF);refine⟨s,?_,?_⟩
 ·rw [o3.len_eq o2.nd];have h1:=o2.len;rw [hout,iq] at h1;have h2:(lr b).s.length=0:=rfl;omega
 ·rw [o4,hout]
end
section
open Go.Lib hiding intOf
section
variable {l:List aL} {b:ap} {arts:List ac} {recs:List ar} {g:List ae} {x:ac}
end
end
section
open Go.Lib hiding intOf
theorem QZ {m:Option Bool} (h:Ok m fun r=>r=true):m=some true:=by obtain⟨v,e,rfl⟩:=h; exact e
theorem HL {t:List Int} (h:¬ t.length<=400):po t=some false:=by
 unfold po;rw [decide_eq_false (by omega)]
theorem I8 {t:List Int} (h:t.length<=400):po t=some true:=by
 unfold po;rw [decide_eq_true (by omega)]
theorem QO:cV ((7:Nat):Int)=ByteArray.mk #[55]:=by
 unfold cV;rw [oJ,(Mk (l:=[55]) (n:=7) (by decide)).1]
theorem Rb {α:Type} {x:α}:∀ {xs:List α},x∈xs->xs.length<=1->xs=[x]
 | [],h,_=>by cases h
 | [y],h,_=>by rw [cp.1 h]
 | y::z::w,_,h=>by simp at h
def x7:ByteArray:=⟨#[55]⟩
def RR:dz:=⟨true,false,0,0⟩
def Ak:aL:=⟨false,[RR],1,0⟩
def Aj:List aL:=[Ak]
noncomputable def L1:ap:=⟨1,[⟨bO 0,x7,1⟩],[]⟩
theorem BY:bk Aj:=by
 refine⟨by decide,by decide,fun i r hi=>?_⟩;obtain rfl:i=0:=by have:=aU hi; simp [Aj] at this; omega
 obtain rfl:Ak=r:=bJ hi;refine⟨by decide,fun k a ha=>?_,(fun h=>by cases h),fun _=>⟨by decide,by decide,by decide,by decide⟩⟩;obtain rfl:k=0:=by have:=aU ha; simp [Ak] at this; omega
 obtain rfl:RR=a:=bJ ha;exact⟨by decide,fun _=>by decide,(fun h=>by cases h),(fun h=>by cases h),by decide,fun _=>by decide,(fun h=>by cases h),fun _=>rfl⟩
theorem Jc (l:List aL):jo l (ap.mk 0 [] []):=⟨⟨by show (0:Int)<=0; omega,by show (0:Int)<=1000000; omega⟩,fun x hx=>absurd hx cF,sA,fun x hx=>absurd hx cF,sA⟩
theorem Oa:iB (ap.mk 0 [] []) [ci.mk (bO 0) x7]=some (L1,0):=by
 have h:=Jc Aj;have hl:Aj.length<=8:=by decide
 have hcp:=FA (h.rm hl).1 (h.rm hl).2.1;have hw:IntKind.i64.wrap ((ap.mk 0 [] []).r+1)=1:=ki (by decide) (by decide);unfold iB;rw [hcp,al,Gg h hl,al];simp only [eE,cond_false];rw [show decide ((32:Int)<(([ci.mk (bO 0) x7]:List ci).length:Int))=false by decide,cond_false];rw [dX (r:=Fl.go ()) 1 (fun k O=>by
  obtain rfl:k=0:=by omega
  unfold hU;rw [show decide (((0:Nat):Int)<(([ci.mk (bO 0) x7]:List ci).length:Int))=true by decide,cond_true,bB (by decide),al];show ((cP (bO 0)).bind _)=_;rw [vC (by omega),al];simp only [eE,cond_false];show ((cO (bO 0)).bind _)=_;rw [mS,al,cy (by omega)]; rfl) (by unfold hU; rfl),al]
 show hR _ _=_;unfold hR;rw [dX (r:=Fl.go ()) 1 (fun k O=>by
  obtain rfl:k=0:=by omega
  unfold hS;rw [show decide (((0:Nat):Int)<(([ci.mk (bO 0) x7]:List ci).length:Int))=true by decide,cond_true,bB (by decide),al,cy (by omega)]; rfl) (by unfold hS; rfl),al]
 show hO _ _=_;unfold hO;rw [hcp,al];have h10:loop (fun s:Bool×Int=>l5 (ci.mk (bO 0) x7) [] s.1 s.2) (true,0)=some true:=cR rfl;have h8:loop (fun s:(List be)×Bool×Int=>gw (ap.mk 0 [] []) [] (ci.mk (bO 0) x7) s.1 s.2.1 s.2.2) (([]:List be),false,0)=some ([],false):=cR rfl;have hne:((mX (ap.mk 0 [] []) (bO 0)).t.toList==x7.toList)=false:=by
  show (cu.toList==(ByteArray.mk #[55]).toList)=false;rw [ByteArray.toList_eq,ByteArray.toList_eq]; rfl
 have e1:fF [ci.mk (bO 0) x7] (ap.mk 0 [] []) (ap.mk 0 [] []) false 0 []=some (.go (true,1,[⟨bO 0,x7,1⟩])):=by
  unfold fF;rw [show decide ((0:Int)<(([ci.mk (bO 0) x7]:List ci).length:Int))=true by decide,cond_true];show ((some (ci.mk (bO 0) x7)).bind _)=_;rw [al,show sH [ci.mk (bO 0) x7] (IntKind.i64.wrap (0+1)) ([ci.mk (bO 0) x7]:List ci).length=some [] from rfl,al,h10,al];unfold ni;simp only [eE,cond_false];rw [Ht (h.rm hl).2.1,al,hne,cond_false,h8,al];unfold fk fj jc;simp only [mL,cond_true];rw [hw]; rfl
 have e2:fF [ci.mk (bO 0) x7] (ap.mk 0 [] []) (ap.mk 0 [] []) true 1 [⟨bO 0,x7,1⟩]=some (.out (true,[⟨bO 0,x7,1⟩])):=rfl;rw [show loop (fun s:Bool×Int×(List be)=>fF [ci.mk (bO 0) x7] (ap.mk 0 [] []) (ap.mk 0 [] []) s.1 s.2.1 s.2.2) (false,0,(ap.mk 0 [] []).i)=some (true,[⟨bO 0,x7,1⟩]) from (eV e1).trans (cR e2),al];unfold k6;rw [hw]; rfl
theorem RT {inp:ae->ByteArray} (h:inp (bO 0)=x7):Vd Aj inp 0=x7:=by
 rw [CF BY (n:=0) (r:=Ak) rfl];have e:eW Aj inp (Vd Aj inp) Ak Ak.c.length=[x7]:=by
  show eW Aj inp (Vd Aj inp) Ak (0+1)=_;rw [q8 (k:=0) (x:=RR) rfl];show []++[nH Aj inp (Vd Aj inp) RR []]=_;rw [xH BY (n:=0) (r:=Ak) rfl (k:=0) rfl];show []++[vK Aj inp (bO 0)]=_;rw [ur,h]; rfl
 have h7:x7=cV ((7:Nat):Int):=QO.symm;rw [e];have:w7 Ak [x7]=((7:Nat):Int):=by
  unfold w7;rw [h7];simp only [vw,BC,List.sum_cons,List.sum_nil,tW (show 7<65536 by omega)];rfl
 rw [this,<- h7]
theorem RS {inp:ae->ByteArray} {V:Nat->ByteArray}:kT Aj inp V Ak Ak.c.length=[bO 0]:=by
 show kT Aj inp V Ak (0+1)=_;rw [rp (k:=0) (x:=RR) rfl];rfl
theorem Qv:jo Aj L1:=⟨⟨by decide,by decide⟩,fun x hx=>by
 rw [show x=⟨bO 0,x7,1⟩ from cp.1 hx];exact⟨⟨0,by omega,rfl⟩,by decide,by decide,by decide⟩,xA _ _,fun x hx=>absurd hx cF,sA⟩
theorem RW:VI Aj (fun _=>inB L1) L1 LD:=⟨fun _=>rfl,fun _ _ _ _=>rfl,fun m hm=>absurd hm cF,fun m hm=>absurd hm cF⟩
theorem RU:∀ i:Nat,(aW Aj)[i]? ≠ some true:=fun i hi=>by
 have:i<1:=aU hi;obtain rfl:i=0:=by omega
 cases hi
theorem JC:pL=some true:=by
 have hl:Aj.length<=8:=by decide
 unfold pL;rw [show lD 0=some (bO 0) from vU (n:=0) (by omega),al];rw [show iB (ap.mk 0 [] []) [ci.mk (bO 0) (ByteArray.mk #[55])]=some (L1,0) from Oa,al];rw [show kY [aL.mk false [dz.mk true false 0 0] 1 0] 0=some (rk Aj 0) from Bs (l:=Aj) (n:=0) (by decide) (by decide),al];have hg0:og Aj (rk Aj 0):=.inr ⟨0,by decide,rfl⟩;obtain⟨y,e1,hy⟩:=xr BY Qv RW (goals:=[rk Aj 0]) (fun k O=>by rw [cp.1 O]; exact hg0) (by decide);rw [show iD uu [aL.mk false [dz.mk true false 0 0] 1 0] (ap.mk L1.r L1.i L1.s) [rk Aj 0]=some y from e1,al];have hB2:=hy.lv.ok;have hF:=hy.fu rfl;have hin:inB L1 (bO 0)=x7:=by
  show (mX L1 (bO 0)).t=_;unfold mX;rw [show L1.i=[⟨bO 0,x7,1⟩] from rfl];rw [List.find?_cons_of_pos (by exact fc.2 rfl)]
 have hin2:inB y.1 (bO 0)=x7:=(hy.vi.now _).trans hin;have hver:cH y.1 (rk Aj 0)=true:=by
  rcases hy.there _ dF with⟨c,e⟩ | h
  ·exact absurd e.symm rI
  ·exact h
 have hnr:=hB2.nrec;unfold cH at hver;rw [lq,decide_eq_true_eq] at hver;obtain⟨f1,f2⟩:=cB hver.1;generalize (bj y.1.s (rk Aj 0)).1=m at f1 f2 hver;have hrec:y.1.s=[m]:=Rb f1 hnr;obtain⟨e3,e4⟩:=hy.vi.recv m f1 0 Ak rfl f2;have hrd:m.v=[bO 0]:=e4.trans RS;have hval:m.t=x7:=e3.trans (RT hin);have hBG:BG y.1:=JE hl hB2 y.1.r (.inl rfl);have hcol:G6 y.1=[iT y.1 m]:=by rw [EC hF,hrec]; rfl
 obtain⟨U,hBGn,s,s1,s2⟩:=Il BY RU hB2 hy.vi hF;rw [hrec] at U s1 s2;have hfew:(iT y.1 m).v.length<=1000:=by
  show (m.v.map _).length<=1000;rw [iq,hrd]; simp
 have hreads:(iT y.1 m).v=[⟨bO 0,uQ x7⟩]:=by
  show m.v.map (P8 y.1)=_;rw [hrd];show [bM.mk (bO 0) (uQ (kV y.1 (bO 0)))]=_;unfold kV;rw [if_pos nN,hin2]
 have hfit:jW (lr y.1) (iT y.1 m)=some true:=by
  obtain⟨z,e,hz⟩:=Ke hBGn hfew;rw [e,hz.2 fun r hr=>?_];rw [hreads] at hr;rw [cp.1 hr];refine⟨by show kBq (lr y.1) (bO 0)=true; unfold kBq; rw [nN]; rfl,?_⟩;show uQ x7=uQ (kV (lr y.1) (bO 0));unfold kV;rw [if_pos nN];exact congrArg uQ hin2.symm
 have hnot:jW (ap.mk 0 [] []) (iT y.1 m)=some false:=by
  obtain⟨z,e,hz⟩:=Ke (JE hl (Jc Aj) 0 (recs:=[]) (.inl rfl)) hfew;have e':jW (ap.mk 0 [] []) (iT y.1 m)=some z:=e;rw [e'];cases z with
  | false=>rfl
  | true =>
   have h1:=(hz.1 rfl ⟨bO 0,uQ x7⟩ (by rw [hreads]; exact dF)).2;have h1:uQ x7=uQ (kV (ap.mk 0 [] []) (bO 0)):=h1;have h2:=Ov (by decide) h1;unfold kV at h2;rw [if_pos nN] at h2;have h3:=congrArg ByteArray.size h2;exact absurd h3 (by decide)
 rw [show ix (ap.mk y.1.r y.1.i y.1.s)=some [iT y.1 m] from by rw [<- hcol]; exact Ex hBG,al];rw [show iy [aL.mk false [dz.mk true false 0 0] 1 0] (ap.mk y.1.r y.1.i []) [iT y.1 m]=some (wr (lr y.1) [jz (lr y.1) (iT y.1 m)],s,0) from s2,al];have s1:s.length=1:=s1;simp only [s1,dx,ma,show (((0+1:Nat):Int)==1)=true from rfl,show (((1:Nat):Int)==1)=true from rfl,show ((0:Int)==0)=true from rfl,cond_true];rw [show bp [jz (lr y.1) (iT y.1 m)] 0=some (jz (lr y.1) (iT y.1 m)) from rfl,al,show ((jz (lr y.1) (iT y.1 m)).t.toList==(ByteArray.mk #[55]).toList)=true by
  show (m.t.toList==(ByteArray.mk #[55]).toList)=true;rw [hval];exact beq_self_eq_true _,cond_true,show bp [iT y.1 m] 0=some (iT y.1 m) from rfl,al,show jW (ap.mk y.1.r y.1.i []) (iT y.1 m)=some true from hfit,al,cond_true,al,hnot]
 rfl
end
section
open Go.Lib hiding intOf
section
variable {l:List ar} (hl:l.length<=1000000)
include hl
end
section
variable {b:ap}
end
section
variable {b:ap}
end
theorem Fs {xs:List ac} (hn:xs.length<=1000000) (h:∀ x∈xs,x.v.length<=1000000):ef xs xs=some true:=by
 unfold ef;rw [show (((xs.length:Int):Int) != (xs.length:Int))=false by simp,cond_false];refine jJ (dX (r:=Fl.go ()) xs.length (fun k O=>?_) ?_) rfl
 ·have hr:=h _ (dG O);have e:oT xs[k] xs[k]=some true:=by
   unfold oT;rw [show ((xs[k].b.k:Int)==xs[k].b.k&&xs[k].b.x.toList==xs[k].b.x.toList)=true by simp,beq_self_eq_true,show ((xs[k].a:Int) != xs[k].a)=false by simp,show (((xs[k].v.length:Int):Int) != (xs[k].v.length:Int))=false by simp];simp only [eE,cond_false];refine jJ (dX (r:=Fl.go ()) xs[k].v.length (fun j hj=>?_) ?_) rfl
   ·unfold k9;rw [dlt hj,cond_true,bB hj,al,al,cy (by omega)];simp
   ·unfold k9;rw [bZ]; rfl
  unfold fp;rw [dlt O,cond_true,bB O,al,al,e,cy (by omega)]; rfl
 ·unfold fp;rw [bZ]; rfl
end
section
open Go.Lib hiding intOf
section
variable {l:List aL} {b:ap}
end
section
variable {u:(List aL)×ap×bH} {a m y:List ac} {r:Int}
end
end
section
open Go.Lib hiding intOf
section
variable {u:(List aL)×ap×bH} {a m y:List ac} {r:Int}
end
end
section
open Go.Lib hiding intOf
end
section
open Go.Lib hiding intOf
def QY (i:Nat) (r:aL):aL:=if r.q=true then ⟨false,[⟨true,false,((i % 4:Nat):Int),0⟩],3,(i:Int)⟩ else r
theorem MT (i:Nat) (r:aL):(QY i r).q=false:=by
 unfold QY;split
 ·rfl
 ·rename_i h; simpa using h
theorem Tp {l l':List aL} (C:bk l) (hlen:l'.length=l.length) (h:∀ i r,l[i]? = some r->l'[i]? = some (QY i r)):bk l'/\∀ i:Nat,(aW l')[i]? ≠ some true:=by
 have hno:∀ i:Nat,(aW l')[i]? ≠ some true:=fun i hi=>by
  unfold aW at hi;rw [uy] at hi;cases he:l'[i]? with
  | none=>rw [he] at hi; cases hi
  | some q =>
   have hil:=aU he;have:=h i _ (bh (by omega));rw [he] at this;rw [he,nG,bJ this,MT] at hi;cases hi
 refine⟨⟨by rw [hlen]; exact C.low,by rw [hlen]; exact C.high,fun i q hq=>?_⟩,hno⟩;have hil:=aU hq;have hg:l[i]? = some l[i]:=bh (by omega);have e:=h i _ hg;rw [hq] at e;rw [Ax (hno i),bJ e];have hi8:=C.high;unfold QY;by_cases hr:l[i].q=true
 ·rw [if_pos hr];refine⟨by show 1<=3; decide,fun k a ha=>?_,(fun h=>by cases h),fun _=>⟨by show (1:Int)<=3; decide,by show (3:Int)<=4; decide,by show (0:Int)<=(i:Int); omega,by show (i:Int)<=16; omega⟩⟩;obtain rfl:k=0:=by have:=aU ha; simp at this; omega
  obtain rfl:=bJ ha;exact⟨by show (0:Int)<=((i % 4:Nat):Int); omega,fun _=>by show ((i % 4:Nat):Int)<4; omega,(fun h=>by cases h),(fun h=>by cases h),by show (0:Int)<=0; decide,fun _=>by show (0:Int)<4; decide,(fun h=>by cases h),fun _=>rfl⟩
 ·rw [if_neg hr];have hro:=C.each i _ hg;rwa [Ax (by rw [lj (by omega)]; simpa using hr)] at hro
theorem Im {u:(List aL)×bH} (C:bk u.1):Ok (loop (fun s:(List aL)×Int=>d9 u s.1 s.2) (u.1,0)) fun l'=>bk l'/\∀ i:Nat,(aW l')[i]? ≠ some true:=by
 have hl:=C.high;have key:Ok ((loop (fun s:(List aL)×Int=>d9 u s.1 s.2) (u.1,0)).bind fun r=>some r) fun l'=>bk l'/\∀ i:Nat,(aW l')[i]? ≠ some true:=by
  refine bL (fun (j:Nat) (s:(List aL)×Int)=>s.2=j/\s.1.length=u.1.length/\(∀ i r,i<j->u.1[i]? = some r->s.1[i]? = some (QY i r))/\∀ i,j<=i->s.1[i]? = u.1[i]?) (fun r=>bk r/\∀ i:Nat,(aW r)[i]? ≠ some true) u.1.length ⟨rfl,rfl,fun i r hi=>absurd hi (by omega),fun i _=>rfl⟩ ?_ (fun r hr=>aq hr);rintro j ⟨q,i0⟩ hj ⟨rfl,h1,h2,h3⟩;dsimp only at h1 h2 h3 ⊢;unfold d9;refine aS (fun hlt=>?_) (fun hge=>aq ?_)
  ·have hlt:j<u.1.length:=by have:=of_decide_eq_true hlt; omega
   have hqj:q[j]? = some u.1[j]:=by rw [h3 j (bx _),bh hlt]
   unfold ij;refine aX ((aV _ _).trans hqj) (aS (fun hr=>aX ((aV _ _).trans hqj) (aq ⟨hlt,cy (by omega),by show (q.set _ _).length=_; rw [Fj]; exact h1,fun i r hi hir=>?_,fun i hi=>?_⟩)) (fun hr=>aq ⟨hlt,cy (by omega),h1,fun i r hi hir=>?_,fun i hi=>h3 i (by omega)⟩))
   ·show (q.set (Int.toNat (j:Int)) _)[i]? = _;rw [gP];by_cases hij:i=j
    ·subst hij;rw [Ag (by omega)];rw [bh hlt] at hir;rw [<- bJ hir];unfold QY;rw [if_pos hr];rfl
    ·rw [Af (by omega)];exact h2 i r (by omega) hir
   ·show (q.set (Int.toNat (j:Int)) _)[i]? = _;rw [gP,Af (by omega)];exact h3 i (by omega)
   ·by_cases hij:i=j
    ·subst hij;rw [hqj];rw [bh hlt] at hir;rw [<- bJ hir];unfold QY;rw [if_neg (by rw [hr]; decide)]
    ·exact h2 i r (by omega) hir
  ·have hge:=of_decide_eq_false hge;exact Tp C h1 fun i r hir=>h2 i r (by have:=aU hir; omega) hir
 obtain⟨y,e,hy⟩:=key;refine⟨y,?_,hy⟩;cases h:loop (fun s:(List aL)×Int=>d9 u s.1 s.2) (u.1,0) with
 | none=>rw [h] at e; cases e
 | some z=>rw [h] at e; exact e
end
section
open Go.Lib hiding intOf
theorem ON {a b r:List ac} (h:Pw a b r):r.length<=a.length+b.length:=by
 have hn:r.Nodup:=h.asc.imp fun {x y} hxy e=>by
  subst e;rw [FX] at hxy;exact absurd hxy (by omega)
 have:=kS hn (m:=a++b) fun x hx=>cM.2 ((h.mem x).1 hx);rwa [br] at this
theorem Rh {l:List aL} {q:(List ae)×bH} {y x:ap×(List ae)×Int} {a:List ac} (C:bk l) (hB:jo l y.1) (hH:LA l y.1) (hrev:y.1.r<=1000) (hd:di q.2.L q.2.k1)
  (ha:∀ z∈a,iR l z) (han:(a.map ac.b).Nodup) (hal:a.length<=8) (hvl:gZ x.1.s=some true):Ok (fx l q y a x) fun r=>r=true:=by
 unfold fx;refine aP (Fr C hB hH hrev hd) fun m ⟨m1,m2,_⟩=>?_;have hav:∀ z∈a,qV z:=fun z hz=>LT C (ha z hz);have hmv:∀ z∈m.1,qV z:=fun z hz=>LT C (m2 z hz);obtain⟨p,p1,p3⟩:=CR hav hmv (by omega);obtain⟨s,s1,s3⟩:=CR hmv hav (by omega);have hpv:∀ z∈p,qV z:=fun z hz=>by
  rcases (p3.mem z).1 hz with h | h
  ·exact hav z h
  ·exact hmv z h
 have p4:=ON p3;obtain⟨r,r1,r3⟩:=CR hpv hpv (by omega);have e1:s=p:=AS s3.asc p3.asc fun z=>(s3.mem z).trans (or_comm.trans (p3.mem z).symm);have e2:r=p:=AS r3.asc p3.asc fun z=>(r3.mem z).trans (or_self_iff);have hle:a.length<=p.length:=by
  have h:=kS han (m:=p.map ac.b) fun k O=>by
   obtain⟨z,hz,rfl⟩:=cL.1 O;exact wc ((p3.mem z).2 (.inl hz))
  rwa [iq,iq] at h
 have hsame:ef p p=some true:=Fs (by omega) fun z hz=>by have:=(hpv z hz).few; omega
 refine aX p1 (aX s1 (aX r1 ?_));subst e1 e2;simp only [show ((0:Int)==0)=true from rfl,cond_true];refine aX hsame ?_;rw [cond_true];refine aX hsame ?_;rw [cond_true,decide_eq_true (by omega),cond_true];refine aX hvl ?_;rw [cond_true];exact aX JC (aq rfl)
theorem Bv {b:ap} (xs:List ae):(xs.map (P8 b)).map bM.b=xs:=by
 rw [BB];exact List.map_id _
theorem DW (t:List Int):iJ t=some true:=by
 rcases e9 400 t.length with ht | ht
 ·unfold iJ;rw [HL (by omega),al,JC]; rfl
 refine QZ ?_;unfold iJ;refine aX (I8 ht) ?_;simp only [eE,cond_false];refine aX (v:=bH.mk t 0) rfl (aP (Nj (d:=t) (i:=0) ⟨by omega,by omega,ht⟩) fun u ⟨hR0,d1⟩=>aP (Im hR0) fun l ⟨C,hno⟩=>?_);have hl:=C.high;unfold kp;refine aP (Cm d1 (by omega) (by omega)) fun z ⟨z1,z2,d2⟩=>?_;have hH0:LA l (ap.mk 0 [] []):=⟨fun _ _=>⟨#[]⟩,fun _=>rfl,fun _ _ _ _=>rfl,fun m hm=>absurd hm cF,fun m hm=>absurd hm cF⟩;refine aP (Ba C (Jc l) hH0 (by show (0:Int)+1<=1000000; omega) z1 (by omega)) fun w ⟨w1,w2,⟨H,w3⟩,w4⟩=>?_;have w2:w.1.r<=0+1:=w2;refine aP (Hu C d2 (by omega) (by omega)) fun q ⟨g1,g2,d3⟩=>aP (xr C w1 w3 g1 g2) fun y hy=>?_;have hB:=hy.lv.ok;have hF:=hy.fu w4;have hrev:y.1.r=w.1.r:=hy.lv.rev;have hnr:=hB.nrec;have hBG:BG y.1:=JE hl hB y.1.r (.inl rfl);refine aX (Ex hBG) ?_;rw [EC hF];obtain⟨c3,hBGn,got,g1,h1⟩:=Il C hno hB hy.vi hF;refine aX h1 ?_;rw [show ((0:Int) != 0)=false from rfl,cond_false,show ((((y.1.s.map (iT y.1)).length:Int):Int) != (y.1.s.length:Int))=false by rw [iq]; simp,cond_false,show (((got.length:Int):Int) != ((y.1.s.map (iT y.1)).length:Int))=false by rw [iq,g1]; simp,cond_false];refine aX (dX (r:=Fl.go ()) y.1.s.length (fun k O=>?_) ?_) ?_
 ·have hm:=dG O;have hrl:=(hB.recs _ hm).reads;have hg:bp (wr (lr y.1) (y.1.s.map fun m=>jz (lr y.1) (iT y.1 m))).s (k:Int)=some (jz (lr y.1) (iT y.1 y.1.s[k])):=by
   show bp (y.1.s.map fun m=>jz (lr y.1) (iT y.1 m)) (k:Int)=_;rw [aV,uy,bh O]; rfl
  unfold ik;rw [dlt O,cond_true,bB O,al,hg,al];generalize y.1.s[k]=m at hrl;rw [show ((jz (lr y.1) (iT y.1 m)).b.k==m.b.k&&(jz (lr y.1) (iT y.1 m)).b.x.toList==m.b.x.toList)=true by
   show (m.b.k==m.b.k&&m.b.x.toList==m.b.x.toList)=true;simp]
  rw [eE,cond_false,show ((jz (lr y.1) (iT y.1 m)).t.toList==m.t.toList)=true by
   show (m.t.toList==m.t.toList)=true;simp]
  rw [eE,cond_false,show (jz (lr y.1) (iT y.1 m)).v=m.v from Bv m.v,Ei (by unfold Rm; omega),al,eE,cond_false,show ((jz (lr y.1) (iT y.1 m)).a != m.a)=false by
   show (m.a != m.a)=false;simp]
  rw [cond_false,cy (by omega)]
 ·unfold ik;rw [bZ]; rfl
 show Ok (fx l q y (y.1.s.map (iT y.1)) (wr (lr y.1) (y.1.s.map fun m=>jz (lr y.1) (iT y.1 m)),got,0)) _;have hBo:jo l (wr (lr y.1) (y.1.s.map fun m=>jz (lr y.1) (iT y.1 m))):=by
  refine⟨hB.rev,hB.ins,hB.insA,fun r hr=>?_,Dz.2 hB.recsA⟩;obtain⟨m,hm,rfl⟩:=cL.1 hr;have h:=hB.recs m hm;have er:(jz (lr y.1) (iT y.1 m)).v=m.v:=Bv m.v;exact⟨h.key,h.value,by rw [er]; exact h.reads,fun k O=>h.good k (by rw [<- er]; exact O),hB.rev.1,wC _,wC _,h.cost,fun e=>by cases e⟩
 refine Rh C hB ⟨H,hy.vi⟩ (by omega) d3 c3 ?_ (by rw [iq]; omega) ?_
 ·rw [BB];exact xV hB.recsA
 ·exact Ii hBo hl
end
section
open Go.RowKit Go.ChangeShapes Go.WideShapes Go.ChangeAt
open Go.Lib hiding intOf
variable {W:World} {l:List (String×DataW Unit)}
theorem Vc:ownKnob Tryz.prog.godebug=none:=by kernel_rfl
theorem LaidVars.mem {P:Program} {w:World} {nm:String} {d:DataW Unit}:∀ {l:List (String×DataW Unit)} {ps:List MemPlace},DataW.LaidVars P w l ps->(nm,d)∈l ->
  ∃ g t cs fuel p,P.globalNamed nm=some g/\(P.globals[g]?).map (·.type)=some t/\w.var? P nm=some cs/\DataW.trod (fun _=>()) P w 0 (fun _=>true) false fuel t cs.toList=some (d,p)
 | [],_,_,hm=>by cases hm
 | (n1,d1)::l,ps,h,hm=>by
  obtain⟨g,t,cs,f,p,q,hg,ht,hv,hd,hq,_⟩:=h;rcases bC.1 hm with he | hm
  ·injection he with h1 h2;subst h1 h2;exact⟨g,t,cs,f,p,hg,ht,hv,hd⟩
  ·exact LaidVars.mem hq hm
theorem MI (h : laidMet aO l W) (hm : ("internal/strconv.uint64pow10", Lib.tabData .u64 pow10Tab) ∈ l) : TabIs aO W "internal/strconv.uint64pow10" .u64 pow10Tab := by
 obtain⟨ps, hl, _⟩ := h;obtain⟨g, t, cs, f, p, hg, ht, hv, hd⟩ := LaidVars.mem hl hm;obtain rfl := bJ ((show Tryz.prog.globalNamed "internal/strconv.uint64pow10" = some 1 by kernel_rfl).symm.trans hg)
 obtain rfl:=bJ ((show (Tryz.prog.globals[1]?).map (·.type)=some 261 by kernel_rfl).symm.trans ht);unfold TabIs;rw [hv,<- cells_of_tab Tryz.underlying261 Tryz.underlying45 (by kernel_rfl) (by kernel_rfl) hd]
theorem HJ (h:laidMet aO l W) {nm:String} {d:DataW Unit} {s:String} {g0:Nat} (hm:(nm,DataW.iface s d)∈l) (hg0:Tryz.prog.globalNamed nm=some g0) (ht0:(Tryz.prog.globals[g0]?).map (·.type)=some 207) :
  ∃ ev,W.cell? ⟨g0,0,none⟩=some ev/\(ev = .nilIface∨∃ te pe,ev = .iface te pe):=by
 obtain⟨ps,hl,_⟩:=h;obtain⟨g,t,cs,f,p,hg,ht,hv,hd⟩:=LaidVars.mem hl hm;obtain rfl:=bJ (hg0.symm.trans hg);obtain rfl:=bJ (ht0.symm.trans ht);obtain⟨_,u,v,hcs,_,_⟩:=iface_of_trod Tryz.underlying207 hd;refine⟨.iface u v,?_,.inr ⟨u,v,rfl⟩⟩;have:=World.var?_cell hg0 hv 0;rw [Array.eq_one_of_toList hcs] at this;simpa using this
theorem To (h:laidMetH aO l W) (hp:(l.all fun x=>x.2.handleName?.isNone)=true)
  (h1 : ("internal/strconv.uint64pow10", Lib.tabData .u64 pow10Tab) ∈ l) (h2 : ("strconv.ErrSyntax", Rows.laid_strconv_ErrSyntax) ∈ l) (h3 : ("strconv.ErrRange", Rows.laid_strconv_ErrRange) ∈ l) : Lv W := by
 rw [MakeChecks.laidMetH_plain _ _ _ hp] at h;exact⟨HJ h h2 (by kernel_rfl) (by kernel_rfl),HJ h h3 (by kernel_rfl) (by kernel_rfl),MI h h1⟩
end
section
open Go.ChangeShapes Go.WideShapes Go.ChangeAt Go.RowKit Go.Deep Go.Joins
theorem J5 {α:Type} {Q:Nat->α->Prop}:∀ (n:Nat),(∀ i,i<n->∃ x,Q i x)->∃ xs:List α,xs.length=n/\∀ i x,xs[i]? = some x->Q i x
 | 0,_=>⟨[],rfl,fun i x h=>by simp at h⟩
 | n+1,h=>by
  obtain⟨xs,h1,h2⟩:=J5 n fun i hi=>h i (by omega);obtain⟨y,hy⟩:=h n (by omega);refine⟨xs++[y],by simp [h1],fun i x hx=>?_⟩;by_cases hi:i<xs.length
  ·rw [jm hi] at hx; exact h2 i x hx
  ·have hl:=(bR.1 hx).1;simp only [br,dx,ma] at hl;have:i=xs.length:=by omega
   subst this;rw [jn (bx _),sJ] at hx;simp only [Fh,cw] at hx;subst hx;rw [h1]; exact hy
def GF {α:Type} (P:Program) (t:TypeId) (R:aY α) (Q:α->Prop):Prop :=
 ∀ {H:Type} {enc:TypeId×Value->H} {w:World} {base n:Nat} {sp:Nat->Bool} {held:Bool} {cs:bG} {d:DataW H} {p:List MemPlace},DataW.trod enc P w base sp held n t cs=some (d,p)->(∀ m∈d.weights P t,m<=reachBytes)->∃ x,R.rel No w cs x/\Q x
section
variable {P:Program} {t e:TypeId}
theorem GF.int {k:IntKind} (ht:P.underlying t=some (.int k)):GF P t (aY.int k) (fun n=>(Lit.int k n).wf=true):=fun h _=>by
 obtain⟨n,rfl,_,hw⟩:=DataW.trod_int ht h;exact⟨n,rfl,hw⟩
theorem GF.bool (ht:P.underlying t=some .bool):GF P t aY.bool (fun _=>True):=fun h _=>by
 obtain⟨b,rfl,_⟩:=DataW.trod_bool ht h;exact⟨b,rfl,trivial⟩
theorem GF.str (ht:P.underlying t=some .string):GF P t aY.str (fun s=>s.size<=140737488355328):=fun h hw=>by
 obtain⟨s,rfl,hx,_⟩:=DataW.trod_string ht h;simp only [y4] at hx;obtain⟨rfl,rfl⟩:=hx;refine⟨s,rfl,?_⟩;have:=hw s.data.toList.length (by simp [DataW.weights]);have hr:reachBytes<=140737488355328:=by decide
 have hz:s.size=s.data.toList.length:=by rw [Array.length_toList]; rfl
 omega
theorem Ds {H:Type}:∀ {ds:List (DataW H)} {i:Nat} {d:DataW H},ds[i]? = some d->∀ n∈d.weights P e,n∈DataW.weightsAll P e ds
 | [],_,_,h,_,_=>by simp at h
 | d0::r,0,d,h,n,hn=>by
  simp only [Fh,cw] at h;subst h;simp only [DataW.weightsAll,cM];exact .inl hn
 | d0::r,i+1,d,h,n,hn=>by
  simp only [DL] at h;simp only [DataW.weightsAll,cM];exact .inr (Ds h n hn)
theorem GF.slice {α:Type} {R:aY α} {Q:α->Prop} (ht:P.underlying t=some (.slice e)) (hc:P.cellsOf e=R.size) (hs:0<R.size) (ho:GF P e R Q):GF P t (aY.slice R) (fun xs=>(∀ x∈xs,Q x)/\xs.length*P.bytesOf e<=reachBytes/\xs.length<=maxLen):=fun {H enc w base n sp held cs d p} h hw=>by
 rcases open_slice ht h with⟨rfl,hx⟩|⟨a,len,cap,m,n,D,Pl,rfl,hb,hl,hm,hmm,hx,hi⟩
 ·exact⟨[],⟨_,rfl,aQ.nil_ _ _ _⟩,fun x hx=>by simp at hx,by simp,by simp⟩
 ·simp only [y4] at hx;obtain⟨rfl,rfl⟩:=hx;have hlm:len<=m:=by rw [hmm]; split <;> omega
  obtain⟨xs,h1,h2⟩:=J5 (α:=α) (Q:=fun i x=>Q x/\∃ cs,R.rel No w cs x/\∀ j u,cs[j]? = some u->w.cell? (a.add (i*R.size+j))=some u) len (fun i hil=>by
   obtain⟨cs',hcc,ht'⟩:=hi i (by omega);rw [hc] at hcc;obtain⟨x,hx,hq⟩:=ho ht' (fun k O=>hw k (by
    simp only [DataW.weights,ht,bC,cM];exact .inr (.inl (Ds (i:=i) (d:=D i) (by rw [uy,List.getElem?_range hil]; rfl) k O))))
   obtain⟨_,hcl,hat⟩:=World.cells?_some hcc;refine⟨x,hq,cs',hx,fun j u hu=>?_⟩;have hj:j<R.size:=by rw [<- hcl]; exact (bR.1 hu).1
   rw [<- Go.Deep.add_add,hat j hj,hu])
  subst h1;refine⟨xs,⟨_,rfl,some a,cap,rfl,hl,hm,?_⟩,fun x hx=>?_,?_,du hl hm⟩
  ·cases xs with
   | nil=>exact .inl rfl
   | cons x0 xs =>
    right;obtain⟨_,cs0,hr0,hc0⟩:=h2 0 x0 rfl;have hl0:=R.len hr0;have hu:=hc0 0 _ (bh (show 0<cs0.length by omega));obtain⟨b,off,spot⟩:=a;have hsp:spot=none:=by
     unfold World.cell? at hu;split at hu
     ·cases spot with
      | none=>rfl
      | some q=>simp [Addr.add] at hu
     ·simp at hu
    subst hsp;refine⟨b,off,rfl,fun k x hx=>?_⟩;obtain⟨_,cs,hr,hcs⟩:=h2 k x hx;refine⟨cs,hr,fun h=>h,?_,fun j u hu=>?_⟩
    ·rw [Addr.add_lit] at hu; exact World.block_lt_of_cell? _ _ hu
    ·have:=hcs j u hu;rwa [Addr.add_lit,<- my] at this
  ·obtain⟨i,hi',e⟩:=IB hx;exact (h2 i x (by rw [<- e]; exact bh hi')).1
  ·have:=hw ((xs.length+(m-xs.length))*P.bytesOf e) (by
    simp only [DataW.weights,ht,bC,iq,List.length_range]
    first | exact .inl trivial | exact .inl rfl | trivial)
   exact du (lU _ (by omega)) this
theorem GF.arg {α:Type} {R:aY α} {Q:List α->Prop} {H:Type} {enc:TypeId×Value->H} {w:World} {base:Nat} {sp:Nat->Bool} {held:Bool} {v:Value} {d:DataW H} {p:List MemPlace} {ts:List TypeId} {ds:List (DataW H)} {j0:Nat}
  (ho:GF P t (aY.slice R) Q) (ht:P.underlying t=some (.slice e)) (hsz:(DataW.weightsEach P ts ds).all (·<=reachBytes)=true) (htj:ts[j0]? = some t) (hdj:ds[j0]? = some d)
  {r:Reach} {b0:Nat} (hv:Value.okWide P w r b0 t v) (h:DataW.Trod enc P w base sp held t v d p):∃ xs,aQ R No w v xs/\Q xs:=by
 obtain⟨A,len,cap,rfl⟩:=okWide_slice ht hv;obtain⟨fuel,hf⟩:=h;obtain⟨xs,⟨v',he,hs⟩,hq⟩:=ho hf (fun m hm=>by
  have:=Iu.1 hsz m (DataW.weights_mem_each htj hdj m hm);simpa using this)
 simp only [Value.cells,List.cons.injEq,and_true] at he;subst he;exact⟨xs,hs,hq⟩
end
end
section
open Go.ChangeShapes Go.WideShapes Go.ChangeAt Go.RowKit Go.Deep Go.Joins
def aY.unit:aY Unit where
 size:=0
 rel:=fun _ _ cs _=>cs=[]
 len:=by rintro _ _ _ _ rfl; rfl
 one:=by rintro _ _ _ _ rfl u hu; cases hu
 keep:=fun h _ _=>h
def KC {α:Type} (P:Program) (fs:List Field) (off:Nat) (R:aY α) (Q:α->Prop):Prop :=
 (∀ f∈fs,off<=f.offset) /\
 ∀ {H:Type} {enc:TypeId×Value->H} {w:World} {base n:Nat} {sp:Nat->Bool} {held:Bool} {cs:bG} {xs:List (DataW H×List MemPlace)},cs.length=R.size->xs.length=fs.length ->
  (∀ (i:Nat) (f:Field),fs[i]? = some f->DataW.trod enc P w base sp held n f.type ((cs.drop (f.offset-off)).take (P.cellsOf f.type))=xs[i]?) ->
  (∀ m∈DataW.weightsEach P (fs.map (·.type)) (xs.map (·.1)),m<=reachBytes)->∃ x,R.rel No w cs x/\Q x
section
variable {P:Program} {t:TypeId}
theorem KC.nil (off:Nat):KC P [] off aY.unit (fun _=>True) :=
 ⟨fun f hf=>(by cases hf),fun {H enc w base n sp held cs xs} hl _ _ _=>⟨(),DJ hl,trivial⟩⟩
theorem KC.cons {α β:Type} {R:aY α} {S:aY β} {Q:α->Prop} {Q2:β->Prop} {f:Field} {fs:List Field} {off:Nat} (ho:GF P f.type R Q) (hf:f.offset=off) (hc:P.cellsOf f.type=R.size) (h:KC P fs (off+R.size) S Q2):KC P (f::fs) off (R.prod S) (fun x=>Q x.1/\Q2 x.2):=by
 refine⟨fun g hg=>?_,fun {H enc w base n sp held cs xs} hl hx ht hw=>?_⟩
 ·rcases bC.1 hg with rfl | hg
  ·omega
  ·have:=h.1 g hg; omega
 ·cases xs with
  | nil=>simp at hx
  | cons y xs =>
   have hl:cs.length=R.size+S.size:=hl;have h0:=ht 0 f rfl;rw [hf,sJ,Fg,hc] at h0;obtain⟨x1,k1,k2⟩:=ho h0 (fun m hm=>hw m (by simp only [vw,DataW.weightsEach,cM]; exact .inl hm));obtain⟨x2,k3,k4⟩:=h.2 (H:=H) (enc:=enc) (w:=w) (base:=base) (n:=n) (sp:=sp) (held:=held) (cs:=cs.drop R.size) (xs:=xs) (by rw [sL]; omega) (by simpa using hx) (fun i g hg=>by
    have h1:=ht (i+1) g (by simpa using hg);have h2:=h.1 g (az hg);rw [List.drop_drop,show R.size+(g.offset-(off+R.size))=g.offset-off by omega];simpa using h1) (fun m hm=>hw m (by simp only [vw,DataW.weightsEach,cM]; exact .inr hm))
   exact⟨(x1,x2),⟨cs.take R.size,cs.drop R.size,(qS _ _).symm,k1,k3⟩,k2,k4⟩
theorem GF.struct {α:Type} {R:aY α} {Q:α->Prop} {fs:Array Field} (ht:P.underlying t=some (.struct fs)) (hc:P.cellsOf t=R.size) (h:KC P fs.toList 0 R Q):GF P t R Q:=fun {H enc w base n sp held cs d p} h0 hw=>by
 obtain⟨xs,m,_,hx,hl,hlen,hf⟩:=DataW.trod_struct ht h0;simp only [y4] at hx;obtain⟨rfl,rfl⟩:=hx;refine h.2 (H:=H) (enc:=enc) (w:=w) (base:=base) (n:=m) (sp:=sp) (held:=held) (xs:=xs) (hl.trans hc) (by simpa using hlen) (fun i f hi=>?_) (fun k O=>hw k ?_)
 ·have:=hf i f (by simpa using hi);simpa using this
 ·simp only [DataW.weights,ht];exact O
end
end
section
open Go
theorem EE {P:Program} (h:P.funcs.any Func.goes=false) (f:FuncId):P.goes f=false:=by
 unfold Program.goes;rw [h,Bool.and_false,Bool.or_false];rw [Bool.eq_false_iff];intro hc;rw [BA] at hc;obtain⟨g,_,hg⟩:=hc;cases hf:P.funcs[g]? with
 | none=>rw [hf] at hg; cases hg
 | some fn =>
  rw [hf] at hg;have:P.funcs.any Func.goes=true:=(Po).2 ⟨fn,Array.mem_of_getElem? hf,by simpa using hg⟩;rw [h] at this;cases this
theorem Hw {P:Program} (h:P.funcs.any Func.goes=false) (st:Start) (func:String):P.goesAt st func=false:=by
 have hf:P.goesFrom func=false:=by
  unfold Program.goesFrom;cases P.funcNamed func with
  | none=>rfl
  | some f=>exact EE h f
 have hi:P.inits.toList.any P.goes=false:=by
  rw [Bool.eq_false_iff];intro hc;obtain⟨g,_,hg⟩:=BA.1 hc;rw [EE h g] at hg;cases hg
 unfold Program.goesAt;rw [hf,E9];cases st <;> first | rfl | exact hi
end
end Go.Proofs.YtllbbcgnnoonoaaGreatDoor
