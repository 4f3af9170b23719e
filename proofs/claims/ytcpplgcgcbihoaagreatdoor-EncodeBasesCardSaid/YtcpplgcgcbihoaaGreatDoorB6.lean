/- Texts of the proof, joined (6). -/
import Derived.Test.YtcpplgcgcbihoaaGreatDoorB5
import Derived.Test.YtcpplgcgcbihoaaGreatDoorB4
import Derived.Test.YtcpplgcgcbihoaaGreatDoorB0
import Derived.Test.YtcpplgcgcbihoaaGreatDoorRows
import Derived.ProofKit
import Derived.LaidMore
import Derived.LaidLaws
import Derived.MakeChecks
import Derived.Lib.LaidTab
import Derived.SizedLaws
import Derived.Deep.Slices
import Derived.Deep.Fields
import Derived.Lib.SmallJoins
import Derived.OpenShut
set_option linter.unusedVariables false
set_option linter.unusedSimpArgs false
set_option linter.unusedSectionVars false
namespace Go.Proofs.YtcpplgcgcbihoaaGreatDoor
open Go.RowKit
section
open Go.Lib hiding intOf
variable {α:Type} {E:α->α->Prop} {T:List ah} {r x:ah} {z:α}
instance UA:DecidableEq ah:=fun a b=>decidable_of_iff (jK a b=true) oa
inductive nR {α:Type} (E:α->α->Prop) (x:α):α->Prop
 | refl:nR E x x
 | snoc {y z:α}:nR E x y->E y z->nR E x z
theorem nR.trans {x y:α} (h:nR E x y) (k:nR E y z):nR E x z:=by
 induction k with
 | refl=>exact h
 | snoc _ e ih=>exact .snoc ih e
theorem nR.head {x y:α} (h:E x y) (k:nR E y z):nR E x z:=(nR.snoc .refl h).trans k
def HO (E:α->α->Prop) (x z:α):Prop:=∃ y,nR E x y/\E y z
theorem HO.star {x:α} (h:HO E x z):nR E x z:=by obtain⟨y,h1,h2⟩:=h; exact .snoc h1 h2
theorem nR.plus {x:α} (h:nR E x z) (hne:x≠z):HO E x z:=by
 cases h with
 | refl=>exact absurd rfl hne
 | snoc h1 h2=>exact⟨_,h1,h2⟩
theorem qE:∀ {l m:List α},l.Nodup->(∀ x∈l,x∈m)->l.length<=m.length
 | [],m,_,_=>bY _
 | x::l,m,h,hs=>by
  have h':=A9.1 h;obtain⟨a,b,rfl⟩:=List.append_of_mem (hs x xk);have:=qE (l:=l) (m:=a++b) h'.2 fun y hy=>by
   have h1:=hs y (yl _ hy);rw [dw,dX] at h1;rw [dw];rcases h1 with h1 | rfl | h1
   ·exact .inl h1
   ·exact absurd hy h'.1
   ·exact .inr h1
  simp only [ip,bk] at this ⊢;omega
theorem qY:∀ a b:ah,aW a b=true↔a=b:=fun a b=>oa (a:=a) (b:=b)
theorem Mn {m:List (ah×Bool)} {M:List ah} (h:∀ x,(dx aW x m).getD false=decide (x∈M)) (e:ah):∀ x,(dx aW x (gT aW e true m)).getD false=decide (x∈M++[e]):=fun x=>by
 rw [zN qY];by_cases hx:x=e
 ·subst hx; rw [if_pos ((qY _ _).2 rfl)]; simp
 ·rw [if_neg (fun h=>hx ((qY _ _).1 h)),h]; simp [hx]
section
variable {succ:ah->List ah} {filt:ah->Bool}
def HL (succ:ah->List ah) (filt:ah->Bool) (T:List ah) (i g:Nat) (x r:ah):Prop :=
 ∃ j,T[j]? = some x/\filt r=true/\((j<i/\r∈succ x)∨(j=i/\r∈(succ x).take g))
theorem HL.grow {T':List ah} {i g:Nat} (hi:i<T.length):HL succ filt (T++T') i g x r↔HL succ filt T i g x r:=by
 constructor
 ·rintro⟨j,h1,h2,h3⟩;rw [se (by omega)] at h1;exact⟨j,h1,h2,h3⟩
 ·rintro⟨j,h1,h2,h3⟩;exact⟨j,by rw [se (by omega)]; exact h1,h2,h3⟩
theorem HL.step {i g:Nat} {c e:ah} (hc:T[i]? = some c) (he:(succ c)[g]? = some e):HL succ filt T i (g+1) x r↔HL succ filt T i g x r∨(x=c/\r=e/\filt e=true):=by
 constructor
 ·rintro⟨j,h1,h2,h3 | ⟨rfl,h3⟩⟩
  ·exact .inl ⟨j,h1,h2,.inl h3⟩
  ·rw [hc] at h1;injection h1 with h1;subst h1;rw [bX he,dw,dF] at h3;rcases h3 with h3 | rfl
   ·exact .inl ⟨j,hc,h2,.inr ⟨rfl,h3⟩⟩
   ·exact .inr ⟨rfl,rfl,h2⟩
 ·rintro (⟨j,h1,h2,h3 | ⟨rfl,h3⟩⟩|⟨rfl,rfl,h⟩)
  ·exact⟨j,h1,h2,.inl h3⟩
  ·rw [hc] at h1;injection h1 with h1;subst h1;exact⟨j,hc,h2,.inr ⟨rfl,by rw [bX he]; exact oA _ h3⟩⟩
  ·exact⟨i,hc,h,.inr ⟨rfl,by rw [bX he]; simp⟩⟩
theorem HL.next {i:Nat} {c:ah} (hc:T[i]? = some c):HL succ filt T i (succ c).length x r↔HL succ filt T (i+1) 0 x r:=by
 constructor
 ·rintro⟨j,h1,h2,h3 | ⟨rfl,h3⟩⟩
  ·exact⟨j,h1,h2,.inl ⟨by omega,h3.2⟩⟩
  ·rw [hc] at h1;injection h1 with h1;subst h1;rw [fW] at h3;exact⟨j,hc,h2,.inl ⟨by omega,h3⟩⟩
 ·rintro⟨j,h1,h2,h3 | ⟨rfl,h3⟩⟩
  ·by_cases hj:j=i
   ·subst hj;rw [hc] at h1;injection h1 with h1;subst h1;exact⟨j,hc,h2,.inr ⟨rfl,by rw [fW]; exact h3.2⟩⟩
   ·exact⟨j,h1,h2,.inl ⟨by omega,h3.2⟩⟩
  ·simp at h3
structure WL (succ:ah->List ah) (filt:ah->Bool) (Rch:ah->Prop) (pre:List ah) (seen:List (ah×Bool)) (M:List ah) (i g:Nat):Prop where
 nd:M.Nodup
 see:∀ x,(dx aW x seen).getD false=decide (x∈M)
 rch:∀ x∈M,Rch x
 con:∀ x r,HL succ filt (pre++M) i g x r->r∈M
variable {Rch:ah->Prop} {pre:List ah} {seen:List (ah×Bool)} {M:List ah} {i g:Nat} {c e:ah}
theorem WL.skip (h:WL succ filt Rch pre seen M i g) (hc:(pre++M)[i]? = some c) (he:(succ c)[g]? = some e) (hf:filt e=false):WL succ filt Rch pre seen M i (g+1) :=
 ⟨h.nd,h.see,h.rch,fun x r hx=>by
  rcases (HL.step hc he).1 hx with h1 | ⟨_,_,h1⟩
  ·exact h.con x r h1
  ·rw [hf] at h1; cases h1⟩
theorem WL.old (h:WL succ filt Rch pre seen M i g) (hc:(pre++M)[i]? = some c) (he:(succ c)[g]? = some e) (hm:e∈M):WL succ filt Rch pre seen M i (g+1) :=
 ⟨h.nd,h.see,h.rch,fun x r hx=>by
  rcases (HL.step hc he).1 hx with h1 | ⟨_,rfl,_⟩
  ·exact h.con x r h1
  ·exact hm⟩
theorem WL.new (h:WL succ filt Rch pre seen M i g) (hc:(pre++M)[i]? = some c) (he:(succ c)[g]? = some e) (hm:e ∉ M) (hr:Rch e):WL succ filt Rch pre (gT aW e true seen) (M++[e]) i (g+1) :=
 ⟨List.nodup_append.2 ⟨h.nd,by simp,fun a ha b hb e2=>by rw [dF] at hb; subst hb e2; exact hm ha⟩,Mn h.see e,fun x hx=>by
  rcases dw.1 hx with hx | hx
  ·exact h.rch x hx
  ·rw [dF] at hx; subst hx; exact hr,fun x r hx=>by
  have hi:i<(pre++M).length:=(cu.1 hc).1;rw [<- fq,HL.grow hi] at hx;rcases (HL.step hc he).1 hx with h1 | ⟨_,rfl,_⟩
  ·exact oA _ (h.con x r h1)
  ·simp⟩
theorem WL.next (h:WL succ filt Rch pre seen M i g) (hc:(pre++M)[i]? = some c) (hg:g=(succ c).length):WL succ filt Rch pre seen M (i+1) 0 :=
 ⟨h.nd,h.see,h.rch,fun x r hx=>h.con x r (by subst hg; exact (HL.next hc).2 hx)⟩
theorem WL.fin (h:WL succ filt Rch pre seen M i g) (hi:(pre++M).length<=i) (hx:x∈pre++M) (hr:r∈succ x) (hf:filt r=true):r∈M:=by
 obtain⟨j,hj⟩:=nP.1 hx;exact h.con x r ⟨j,hj,hf,.inl ⟨by have:=(cu.1 hj).1; omega,hr⟩⟩
end
section
variable {rd:ah->List ah} {op:ah->Bool} {k:ah}
def Eg (rd:ah->List ah) (op:ah->Bool) (x y:ah):Prop:=op x=true/\y∈rd x/\op y=true
theorem Oc (O:op k=true) (h:nR (Eg rd op) k x):op x=true:=by
 cases h with
 | refl=>exact O
 | snoc _ e=>exact e.2.2
end
def rI (k:ah):Bool:=decide (k.k=32)||(decide (k.k=7)||decide (k.k=14)||decide (k.k=17)||decide (k.k=18))
theorem im (k:ah):cX k=some (rI k):=by
 unfold cX sK rI iw iv;have hb:∀ n:Int,((k.k:Int)==n)=decide (k.k=n):=fun n=>by rw [Bool.eq_iff_iff]; simp
 rw [hb,hb,hb,hb,hb];by_cases h32:k.k=32
 ·simp [h32]
 ·by_cases h7:k.k=7
  ·simp [h7]
  ·by_cases h14:k.k=14
   ·simp [h14]
   ·by_cases h17:k.k=17
    ·simp [h17]
    ·by_cases h18:k.k=18
     ·simp [h18]
     ·simp only [h32,h7,h14,h17,h18,decide_false,Bool.or_false,cond_false];cases decide ((1:Int)<=k.k) <;> cases decide ((k.k:Int)<=22) <;> rfl
def L8 (r:ay) (rev:Int):Bool:=rI r.d&&decide (r.c<rev) && !r.w
theorem L9 (r:ay) (rev:Int):L8 r rev=(rI r.d&&decide (r.c<rev) && !r.w):=rfl
noncomputable def FH (l:List ay) (rev:Int) (k:ah):Bool:=(cR l k).2&&L8 (cR l k).1 rev
def EN (l:List ay) (k:ah):List ah:=(cR l k).1.v
theorem mg {l:List ay} {k:ah} (h:(cR l k).2=true):(cR l k).1∈l/\(cR l k).1.d=k:=by
 unfold cR at *;cases hf:l.find? (fun r=>jK r.d k) with
 | none=>rw [hf] at h; cases h
 | some r =>
  have h2:=List.find?_some hf;exact⟨IF hf,oa.1 h2⟩
theorem vr {l:List ay} {k:ah} (h:(cR l k).2=false):cR l k=(T3,false)/\∀ r∈l,r.d≠k:=by
 unfold cR at *;cases hf:l.find? (fun r=>jK r.d k) with
 | none =>
  refine⟨rfl,fun r hr e=>?_⟩;have:=Hy.1 hf r hr;exact this (oa.2 e)
 | some r=>rw [hf] at h; cases h
theorem FI {l:List ay} {rev:Int} {k:ah} (h:FH l rev k=true):k∈l.map ay.d:=by
 unfold FH at h;simp only [qj] at h;obtain⟨h1,h2⟩:=mg h.1;exact kC.2 ⟨_,h1,h2⟩
theorem yU {l:List ay} (hl:KO l) (rev:Int) (k:ah):qK l rev k=some (FH l rev k):=by
 unfold qK km;rw [vJ hl,ad];cases hf:(cR l k).2 with
 | false=>simp [FH,hf]
 | true =>
  have O:=(mg hf).2;unfold FH;rw [hf,L9,O,cond_true,im,ad];cases rI k <;> cases decide (((cR l k).1.c:Int)<rev) <;> rfl
structure JU (l:List ay):Prop where
 asc:IH l
 len:l.length<=1000
 rds:∀ r∈l,r.v.length<=1000
theorem JU.rm {l:List ay} (h:JU l):KO l:=⟨by have:=h.len; unfold Rm; omega,fun r hr=>by have:=h.rds r hr; unfold Rm; omega⟩
theorem JU.rd {l:List ay} (h:JU l) (k:ah):(EN l k).length<=1000:=by
 unfold EN;cases hf:(cR l k).2 with
 | true=>exact h.rds _ (mg hf).1
 | false=>rw [(vr hf).1]; exact bY _
noncomputable abbrev Ek (l:List ay) (rev:Int):=Eg (EN l) (FH l rev)
def Ti (l:List ay) (rev:Int) (k:ah) (m:List ah):Prop:=KL m/\∀ x,x∈m↔nR (Ek l rev) k x/\nR (Ek l rev) x k
section
variable {l:List ay} (hl:JU l) {rev:Int} {k:ah} (O:FH l rev k=true)
theorem w9 (O:FH l rev k=true) (h:nR (Ek l rev) k x):FH l rev x=true:=Oc O h
abbrev B1 (l:List ay) (rev:Int) (k:ah) (seen:List (ah×Bool)) (M:List ah) (i g:Nat):Prop:=WL (EN l) (FH l rev) (HO (Ek l rev) k) [k] seen M i g
theorem B1.len {seen:List (ah×Bool)} {M:List ah} {i g:Nat} (h:B1 l rev k seen M i g):M.length<=l.length:=by
 have:=qE (m:=l.map ay.d) h.nd fun x hx=>by
  obtain⟨y,_,e⟩:=h.rch x hx;exact FI e.2.2
 rwa [oz] at this
include hl O in
theorem LQ {seen:List (ah×Bool)} {M:List ah} {i:Nat} {c:ah} (hc:([k]++M)[i]? = some c) (h:B1 l rev k seen M i 0) :
  Ok (loop (fun s:(List (ah×Bool))×(List ah)×Int=>hU l rev (cR l c) s.1 s.2.1 s.2.2) (seen,[k]++M,0)) fun r=>∃ M',r.2=[k]++M'/\B1 l rev k r.1 M' (i+1) 0/\i<([k]++M').length:=by
 have hcs:nR (Ek l rev) k c:=by
  cases i with
  | zero=>simp at hc; subst hc; exact .refl
  | succ i =>
   rw [ua (by simp)] at hc;exact (h.rch c (aD hc)).star
 have hcop:=w9 O hcs;have hrl:=hl.rd c;have hll:=hl.len;refine sX (B:=fun s:(List (ah×Bool))×(List ah)×Int=>hU l rev (cR l c) s.1 s.2.1 s.2.2)
  (fun g s=>s.2.2=(g:Int)/\∃ M',s.2.1=[k]++M'/\B1 l rev k s.1 M' i g/\([k]++M')[i]? = some c) _ (EN l c).length ?_ ?_ ⟨rfl,M,rfl,h,hc⟩
 ·rintro g ⟨sn,L,gi⟩ hg ⟨rfl,M',rfl,U,hLc⟩;dsimp only at U hLc ⊢;have hge:(EN l c)[g]? = some (EN l c)[g]:=cH hg;have hlen:=B1.len U;have hLi:i<([k]++M').length:=(cu.1 hLc).1;refine .inl ?_;have hgu:(cR l c).1.v=EN l c:=rfl;unfold hU;rw [hgu,dlt hg,cond_true,bn,hge,ad];generalize (EN l c)[g]=e at hge;rw [yU hl.rm,ad];unfold m9 m8;rw [cJ (by omega)];cases hf:FH l rev e with
  | false=>exact⟨_,rfl,rfl,M',rfl,U.skip hLc hge hf,hLc⟩
  | true =>
   have hEg:Ek l rev c e:=⟨hcop,aD hge,hf⟩;rw [cond_true,U.see e,ad];by_cases hm:e∈M'
   ·rw [decide_eq_true hm];exact⟨_,rfl,rfl,M',rfl,U.old hLc hge hm,hLc⟩
   ·rw [decide_eq_false hm];simp only [fv,cond_true];rw [gd,dk (by simp only [HD,bk]; omega),cond_true];refine⟨_,rfl,rfl,M'++[e],by simp,U.new hLc hge hm ⟨c,hcs,hEg⟩,?_⟩;rw [<- fq,se hLi]; exact hLc
 ·rintro⟨sn,L,gi⟩ ⟨rfl,M',rfl,U,hLc⟩;dsimp only at U hLc ⊢;have hend:hU l rev (cR l c) sn ([k]++M') ((EN l c).length:Int)=some (.out (sn,[k]++M')):=by
   unfold hU;rw [show (cR l c).1.v=EN l c from rfl,bN]; rfl
  exact⟨_,hend,M',rfl,U.next hLc rfl,(cu.1 hLc).1⟩
include hl O in
theorem GS:Ok (pp l rev k) fun m=>∀ x,(dx aW x m).getD false=true↔HO (Ek l rev) k x:=by
 have hll:=hl.len;have h0:B1 l rev k [] [] 0 0:=⟨List.nodup_nil,fun x=>by simp [dx],fun x hx=>by simp at hx,fun x r h=>by
  obtain⟨j,h1,h2,h3 | ⟨_,h3⟩⟩:=h
  ·omega
  ·simp at h3⟩
 have fin:∀ {sn M i},B1 l rev k sn M i 0->([k]++M).length<=i->∀ x,(dx aW x sn).getD false=true↔HO (Ek l rev) k x:=by
  intro sn M i U hL x;rw [U.see,decide_eq_true_iff];refine⟨U.rch x,?_⟩;rintro⟨y,hy,e⟩;have hall:∀ z,nR (Ek l rev) k z->z∈[k]++M:=fun z hz=>by
   induction hz with
   | refl=>simp
   | snoc _ e ih=>exact xj _ (U.fin hL ih e.2.1 e.2.2)
  exact U.fin hL (hall y hy) e.2.1 e.2.2
 unfold pp pQ;refine ai (Q:=fun m=>∀ x,(dx aW x m).getD false=true↔HO (Ek l rev) k x) ?_ fun m hm=>ae hm;refine sX (B:=fun s:(List (ah×Bool))×(List ah)×Int=>jy l rev s.1 s.2.1 s.2.2)
  (fun i s=>s.2.2=(i:Int)/\∃ M,s.2.1=[k]++M/\B1 l rev k s.1 M i 0/\i<=([k]++M).length) _ (l.length+1) ?_ ?_ ⟨rfl,[],rfl,h0,bY _⟩
 ·rintro i ⟨sn,L,ii⟩ hi ⟨rfl,M,rfl,U,hiL⟩;dsimp only at U hiL ⊢;by_cases hlt:i<([k]++M).length
  ·refine .inl ?_;have hc:([k]++M)[i]? = some ([k]++M)[i]:=cH hlt;obtain⟨⟨s2,L2⟩,e2,M',rfl,h2,h3⟩:=LQ hl O hc U;refine⟨(s2,[k]++M',((i+1:Nat):Int)),?_,rfl,M',rfl,h2,h3⟩;unfold jy m7;rw [dlt hlt,cond_true,bn,hc,ad,vJ hl.rm,ad,e2,ad,cJ (by omega)]
  ·refine .inr ⟨sn,?_,fin U (by omega)⟩;unfold jy;rw [NE hlt]; rfl
 ·rintro⟨sn,L,ii⟩ ⟨rfl,M,rfl,U,hiL⟩;dsimp only at U hiL ⊢;have hlen:=B1.len U;have hlen2:([k]++M).length<=l.length+1:=by rw [bk,HD]; omega
  refine⟨sn,?_,fin U hlen2⟩;unfold jy;rw [NE (by omega)]; rfl
include hl O in
theorem Mr:Ok (oo l rev k) (Ti l rev k):=by
 have hll:=hl.len;unfold oo;rw [yU hl.rm,ad,O];simp only [dJ,cond_false];refine ai (GS hl O) fun tm htm=>?_;unfold tU;refine ai (Q:=fun out=>out.length<=1001/\∀ x,x∈out↔nR (Ek l rev) k x/\nR (Ek l rev) x k) ?_ fun out ⟨h1,h2⟩=>?_
 ·refine sX (B:=fun s:(List ah)×Int=>po l rev k tm s.1 s.2)
   (fun i s=>s.2=(i:Int)/\s.1.length<=i+1/\∀ x,x∈s.1↔x=k∨(∃ r∈l.take i,r.d=x)/\nR (Ek l rev) k x/\nR (Ek l rev) x k) _ l.length ?_ ?_ ⟨rfl,by simp,fun x=>by simp⟩
  ·rintro i ⟨out,ii⟩ hi ⟨rfl,hlen,hm⟩;dsimp only at hlen hm ⊢;refine .inl ?_;have hr:l[i]? = some l[i]:=cH hi;generalize l[i]=r at hr;have hkeep:¬ (r.d≠k/\nR (Ek l rev) k r.d/\nR (Ek l rev) r.d k)->∀ x,x∈out↔x=k∨(∃ r∈l.take (i+1),r.d=x)/\nR (Ek l rev) k x/\nR (Ek l rev) x k:=fun hn x=>by
    rw [hm,bX hr];constructor
    ·rintro (h | ⟨⟨r',h1,h2⟩,h3⟩)
     ·exact .inl h
     ·exact .inr ⟨⟨r',oA _ h1,h2⟩,h3⟩
    ·rintro (h | ⟨⟨r',h1,h2⟩,h3⟩)
     ·exact .inl h
     ·rcases dw.1 h1 with h1 | h1
      ·exact .inr ⟨⟨r',h1,h2⟩,h3⟩
      ·rw [dF] at h1;subst h1 h2;by_cases hx:r'.d=k
       ·exact .inl hx
       ·exact absurd ⟨hx,h3⟩ hn
   have hadd:nR (Ek l rev) k r.d->nR (Ek l rev) r.d k->∀ x,x∈out++[r.d]↔x=k∨(∃ r∈l.take (i+1),r.d=x)/\nR (Ek l rev) k x/\nR (Ek l rev) x k:=fun ha hb x=>by
    rw [dw,hm,bX hr,dF];constructor
    ·rintro ((h | ⟨⟨r',h1,h2⟩,h3⟩) | rfl)
     ·exact .inl h
     ·exact .inr ⟨⟨r',oA _ h1,h2⟩,h3⟩
     ·exact .inr ⟨⟨r,by simp,rfl⟩,ha,hb⟩
    ·rintro (h | ⟨⟨r',h1,h2⟩,h3⟩)
     ·exact .inl (.inl h)
     ·rcases dw.1 h1 with h1 | h1
      ·exact .inl (.inr ⟨⟨r',h1,h2⟩,h3⟩)
      ·rw [dF] at h1;subst h1 h2; exact .inr rfl
   unfold po pn rX;rw [dlt hi,cond_true,bn,hr,ad,cJ (by omega)];show ∃ s',cond (!(jK r.d k)) _ _=_/\_;by_cases hx:r.d=k
   ·rw [oa.2 hx];exact⟨_,rfl,rfl,by dsimp only; omega,hkeep fun h=>h.1 hx⟩
   ·rw [BX.2 hx];simp only [fv,cond_true,ad];cases ht:(dx aW r.d tm).getD false with
    | false =>
     refine⟨_,rfl,rfl,by dsimp only; omega,hkeep fun h=>?_⟩;have:=(htm r.d).2 (h.2.1.plus (fun e=>hx e.symm));rw [ht] at this; cases this
    | true =>
     have hp:=(htm r.d).1 ht;obtain⟨m2,e2,h2⟩:=GS hl (w9 O hp.star);rw [cond_true,e2,ad];cases ht2:(dx aW k m2).getD false with
     | false =>
      refine⟨_,rfl,rfl,by dsimp only; omega,hkeep fun h=>?_⟩;have:=(h2 k).2 (h.2.2.plus hx);rw [ht2] at this; cases this
     | true =>
      have hp2:=(h2 k).1 ht2;rw [cond_true,gd,dk (by simp only [HD]; omega),cond_true];exact⟨_,rfl,rfl,by simp only [bk,HD]; omega,hadd hp.star hp2.star⟩
  ·rintro⟨out,ii⟩ ⟨rfl,hlen,hm⟩;dsimp only at hlen hm ⊢;refine⟨out,by unfold po; rw [bN]; rfl,by omega,fun x=>(hm x).trans ?_⟩;rw [fW];constructor
   ·rintro (rfl | ⟨_,h⟩)
    ·exact⟨.refl,.refl⟩
    ·exact h
   ·intro h;by_cases hx:x=k
    ·exact .inl hx
    ·obtain⟨r,hr,e⟩:=kC.1 (FI (w9 O h.1));exact .inr ⟨⟨r,hr,e⟩,h⟩
 ·obtain⟨m,e,hm⟩:=yd (l:=out) (by unfold Rm; omega);rw [e];exact ae ⟨hm.asc,fun x=>(hm.mem x).trans (h2 x)⟩
end
theorem Ti.len {l:List ay} (hl:JU l) {rev:Int} {k:ah} (O:FH l rev k=true) {m:List ah} (h:Ti l rev k m):m.length<=1000:=by
 have hn:m.Nodup:=List.Pairwise.imp (fun {a b} h=>xq h) h.1;have:=qE (m:=l.map ay.d) hn fun x hx=>FI (w9 O ((h.2 x).1 hx).1);rw [oz] at this;exact cN this hl.len
def KW (l:List ay) (g:List ah) (m:ah):List eB:=((EN l m).filter fun x=>!(g.any fun y=>jK x y)).map fun x=>⟨m,x⟩
def ic (l:List ay) (g h:List ah):List eB:=h.flatMap (KW l g)
theorem KX {l:List ay} (hl:JU l) (g:List ah) (m:ah):(KW l g m).length<=1000:=by
 unfold KW;rw [oz];exact cN (List.length_filter_le _ _) (hl.rd m)
theorem tO {l:List ay} (hl:JU l) (g:List ah):∀ h:List ah,(ic l g h).length<=h.length*1000
 | []=>bY _
 | m::h=>by
  have:=tO hl g h;have:=KX hl g m;unfold ic at *;rw [wd,bk,ip]; omega
theorem Ep {l:List ay} (hl:JU l) {g:List ah} (hg:g.length<=2000):j7 l g=some (ic l g g):=by
 unfold j7 oP;refine gG (ej (xs:=g) (fun k=>(ic l g (g.take k),(k:Int))) rfl (r:=ic l g g) (fun k m hm=>?_) ?_) rfl
 ·have O:=bh hm;have hc:=tO hl g (g.take k);have hct:(g.take k).length<=2000:=by rw [eS]; omega
  unfold l9 oQ;dsimp only;rw [gO hm,cond_true,bn,hm,ad,vJ hl.rm,ad,cJ (by omega)];have hin:loop (fun s:List eB×Int=>jP g m (cR l m) s.1 s.2) (ic l g (g.take k),0)=some (ic l g (g.take k)++KW l g m):=by
   have hrl:=hl.rd m;refine ej (xs:=EN l m) (fun i=>(ic l g (g.take k)++(((EN l m).take i).filter fun x=>!(g.any fun y=>jK x y)).map (fun x=>(⟨m,x⟩:eB)),(i:Int))) (by simp) (fun i x hx=>?_) ?_
   ·have hi:=bh hx;unfold jP l8;dsimp only;rw [show (cR l m).1.v=EN l m from rfl,gO hx,cond_true,bn,hx,ad,AX (by unfold Rm; omega),ad,cJ (by omega),bX hx,t8,Az];have hpl:((((EN l m).take i).filter fun x=>!(g.any fun y=>jK x y)).map (fun x=>(⟨m,x⟩:eB))).length<=1000:=by
     rw [oz];exact cN (vX _ _ _) hrl
    cases hh:g.any fun y=>jK x y with
    | true=>simp [hh]
    | false =>
     simp only [fv,cond_true];rw [gd,dk (by simp only [bk,HD]; omega),cond_true];simp [hh]
   ·unfold jP;dsimp only;rw [show (cR l m).1.v=EN l m from rfl,bN,fW]; rfl
  rw [hin,ad,bX hm];unfold ic;rw [yj,List.flatMap_singleton]
 ·unfold l9;dsimp only;rw [bN,fW]; rfl
end
section
open Go.Lib hiding intOf
variable {ls:List ByteArray} {r:aX} {x:fZ}
noncomputable def rk (l:List aX) (n:Nat):ah:=⟨if (bS l)[n]? = some true then 32 else 31,db n⟩
section
variable {l:List aX} {n a b:Nat}
theorem Ex (ha:a<65536) (hb:b<65536) (h:db (a:Int)=db b):a=b:=by
 have h1:=Aq ha;rw [h,Aq hb] at h1;omega
theorem Dd (ha:a<100) (hb:b<100) (h:rk l a=rk l b):a=b:=Ex (by omega) (by omega) (congrArg ah.t h)
theorem Mu (h:n<l.length):rk l n=Js l[n] n:=by
 unfold rk Js;rw [sd h];cases l[n].o <;> simp
theorem Df (h:n<l.length) (hl:l.length<=100):mV l n=some (rk l n):=by rw [Mu h]; exact Kr h (by omega)
theorem sQ:(rk l n).k=31/\(bS l)[n]? ≠ some true∨(rk l n).k=32/\(bS l)[n]? = some true:=by
 unfold rk;by_cases h:(bS l)[n]? = some true
 ·exact .inr ⟨by simp [h],h⟩
 ·exact .inl ⟨by simp [h],h⟩
theorem GY (h:n<100):CZ 99 (db (n:Int)).toList=n:=by
 unfold CZ;rw [tg,pB,Cy (by omega),if_pos (by omega)]
theorem De (h:n<100):BM (rk l n)=n:=by
 unfold BM;rw [if_pos (by rcases sQ (l:=l) (n:=n) with⟨h,_⟩|⟨h,_⟩ <;> rw [h] <;> decide)];exact GY h
theorem KU (h:n<100):BM (ia n)=n:=by
 unfold BM;rw [if_pos ⟨by show (30:Int)<=30; omega,by show (30:Int)<=32; omega⟩];exact GY h
theorem pA (k:ah):cO k=some (decide (k.k=1)||(decide (k.k=2)||decide (k.k=30))):=by
 unfold cO kW;by_cases h1:k.k=1
 ·simp [h1]
 ·by_cases h2:k.k=2
  ·simp [h2]
  ·by_cases h3:k.k=30
   ·simp [h3]
   ·have hb:∀ n:Int,k.k≠n->(k.k==n)=false:=fun n h=>by simpa using h
    rw [hb 1 h1,hb 2 h2,hb 30 h3];simp [h1,h2,h3]
theorem tF:cO (rk l n)=some false:=by
 rw [pA];rcases sQ (l:=l) (n:=n) with⟨h,_⟩|⟨h,_⟩ <;> rw [h] <;> rfl
theorem qt:cO (ia n)=some true:=by rw [pA]; rfl
theorem Jp:rI (rk l n)=decide ((bS l)[n]? = some true):=by
 unfold rI;rcases sQ (l:=l) (n:=n) with⟨h,k⟩|⟨h,k⟩
 ·rw [h,decide_eq_false k]; rfl
 ·rw [h,decide_eq_true k]; rfl
theorem J0:rI (ia n)=false:=rfl
theorem IT:ia a≠rk l b:=fun h=>by
 have h30:(30:Int)=(rk l b).k:=congrArg ah.k h;rcases sQ (l:=l) (n:=b) with⟨h,_⟩|⟨h,_⟩ <;> rw [h] at h30 <;> omega
theorem EW {k:ah} (h:30<=k.k/\k.k<=32):cY k=some (decide (0<=BM k)):=by
 unfold cY gU;rw [decide_eq_true h.1,decide_eq_true h.2,cond_true,cond_true,qP];rfl
theorem Dg (h:n<100):cY (rk l n)=some true:=by
 rw [EW (by rcases sQ (l:=l) (n:=n) with⟨h,_⟩|⟨h,_⟩ <;> rw [h] <;> decide),De h,decide_eq_true (by omega)]
theorem yt (h:n<100):cY (ia n)=some true:=by
 rw [EW (k:=ia n) ⟨by show (30:Int)<=30; omega,by show (30:Int)<=32; omega⟩,KU h,decide_eq_true (by omega)]
def kI (l:List aX) (k:ah):Prop:=(∃ c,c<10/\k=ia c)∨∃ n,n<l.length/\k=rk l n
theorem kI.valid (hl:l.length<=8) {k:ah} (h:kI l k):cY k=some true:=by
 rcases h with⟨c,hc,rfl⟩|⟨n,hn,rfl⟩
 ·exact yt (by omega)
 ·exact Dg (by omega)
theorem CV (h:n<l.length):Ge (bS l) n<=l.length:=by
 unfold Ge;split
 ·have:=(KR (rs:=bS l) (n:=n) (by unfold bS; rwa [oz])).2.2;unfold bS at this ⊢;rwa [oz] at this
 ·omega
noncomputable def uE (x:fZ) (ls:List ByteArray):Int:=if x.c1=true/\(ls.length=0∨jk (ls.getD (ls.length-1) ⟨#[]⟩) % 2=0) then x.u1 else x.N
noncomputable def uD (l:List aX) (x:fZ) (ls:List ByteArray):ah:=if x.t1=true then ia (uE x ls).toNat else rk l (uE x ls).toNat
theorem rF (C:bM l) (h:l[n]? = some r) {k:Nat} (hx:r.g[k]? = some x) (ls:List ByteArray) :
  0<=uE x ls/\((x.t1=true/\∃ c,c<10/\(uE x ls)=(c:Nat)/\uD l x ls=ia c)∨(x.t1=false/\∃ j,j<Ge (bS l) n/\(uE x ls)=(j:Nat)/\uD l x ls=rk l j)):=by
 have U:=(C.each n r h).each k x hx;have h0:0<=uE x ls:=by unfold uE; split; exact U.low2; exact U.low
 refine⟨h0,?_⟩;cases hc:x.t1 with
 | true =>
  have:uE x ls<4:=by unfold uE; split; exact U.cell2 hc; exact U.cell hc
  exact .inl ⟨rfl,(uE x ls).toNat,by omega,by omega,by unfold uD; rw [if_pos hc]⟩
 | false =>
  have:uE x ls<Ge (bS l) n:=by unfold uE; split; exact U.rule2 hc; exact U.rule hc
  exact .inr ⟨rfl,(uE x ls).toNat,by omega,by omega,by unfold uD; rw [if_neg (by rw [hc]; simp)]⟩
theorem Hc (C:bM l) (h:l[n]? = some r) (hn:r.g.length<=ls.length) :
  jr l (rk l n) ls=some ⟨true,db (wz r (ls.take r.g.length)),⟨0,⟨#[]⟩⟩⟩:=by
 have hlt:=bh h;have h8:=C.high;have h3:=(C.each n r h).asks;have hC:0<=r.C/\r.C<=65535:=by
  have hr:=C.each n r h;cases hg:r.o with
  | true=>have:=hr.ring hg; omega
  | false=>have:=hr.plain hg; omega
 obtain⟨m,hm,hm2⟩:=yD C h (ls:=ls.take r.g.length) (by rw [eS]; omega);unfold jr;rw [qP,ad,De (by omega),decide_eq_false (by omega),cond_false,decide_eq_false (by omega),cond_false,Df hlt (by omega),ad];rw [show (!((rk l n).k==(rk l n).k&&(rk l n).t.toList==(rk l n).t.toList))=false by simp,cond_false,bn,h,ad,decide_eq_true (by omega),cond_true];rw [uW (by omega),ad,Ln hC (by rw [eS]; omega),ad,hm,sW (by omega),ad]
theorem It (C:bM l) (h:l[n]? = some r) (hx:r.g[ls.length]? = some x) :
  jr l (rk l n) ls=some ⟨false,⟨#[]⟩,uD l x ls⟩:=by
 have hlt:=bh h;have hla:=bh hx;have h8:=C.high;have h3:=(C.each n r h).asks;have U:=(C.each n r h).each _ x hx;obtain⟨g0,hg⟩:=rF C h hx ls;have hll:=CV hlt;have j1:∀ z:Int,z=uE x ls->mq l x z=some ⟨false,⟨#[]⟩,uD l x ls⟩:=by
  rintro _ rfl;unfold mq;rcases hg with⟨hc,c,h4,e1,e2⟩|⟨hc,j,h4,e1,e2⟩
  ·rw [hc,cond_true,e1,yP (by omega),ad,e2]
  ·rw [hc,cond_false,e1,Df (by omega) (by omega),ad,e2]
 unfold jr;rw [qP,ad,De (by omega),decide_eq_false (by omega),cond_false,decide_eq_false (by omega),cond_false,Df hlt (by omega),ad];rw [show (!((rk l n).k==(rk l n).k&&(rk l n).t.toList==(rk l n).t.toList))=false by simp,cond_false,bn,h,ad,decide_eq_false (by omega),cond_false,bn,hx,ad];unfold mr;cases hp:x.c1 with
 | false=>exact j1 _ (by unfold uE; rw [if_neg (by rw [hp]; simp)])
 | true =>
  obtain⟨_,O⟩:=U.pick hp;rw [cond_true,show (((ls.length:Nat):Int)==0)=false from beq_eq_false_iff_ne.2 (by omega),cond_false];have hw:IntKind.i64.wrap ((ls.length:Int)-1)=((ls.length-1:Nat):Int):=by rw [lU (by omega) (by omega)]; omega
  have hg2:=cH (l:=ls) (i:=ls.length-1) (by omega);rw [hw,bn,hg2,ad,Hf,ad];have hv:=ku ls[ls.length-1];have hd:ls.getD (ls.length-1) ⟨#[]⟩=ls[ls.length-1]:=by rw [M7,hg2]; rfl
  have ht:Int.tmod (jk ls[ls.length-1]) 2=jk ls[ls.length-1] % 2:=Int.tmod_eq_emod_of_nonneg (by omega);by_cases hz:jk ls[ls.length-1] % 2=0
  ·rw [ht,hz];exact j1 _ (by unfold uE; rw [if_pos ⟨hp,.inr (by rw [hd]; exact hz)⟩])
  ·rw [ht,show (jk ls[ls.length-1] % 2==0)=false by simpa using hz];exact j1 _ (by unfold uE; rw [if_neg (by rw [hd]; rintro⟨_,h | h⟩; exact absurd h (by omega); exact hz h)])
theorem MT (k:ah) (O:k.k=31∨k.k=32) (ls:List ByteArray):fh l k ls=jr l k ls:=by
 unfold fh;rcases O with h | h
 ·rw [h]; cases jr l k ls <;> rfl
 ·rw [h]; cases jr l k ls <;> rfl
theorem Ae:(rk l n).k=31∨(rk l n).k=32:=by rcases sQ (l:=l) (n:=n) with⟨h,_⟩|⟨h,_⟩; exact .inl h; exact .inr h
theorem A5 (C:bM l) (h:l[n]? = some r) (hn:r.g.length<=ls.length) :
  fh l (rk l n) ls=some ⟨true,db (wz r (ls.take r.g.length)),⟨0,⟨#[]⟩⟩⟩:=(MT _ Ae _).trans (Hc C h hn)
theorem Dx (C:bM l) (h:l[n]? = some r) (hx:r.g[ls.length]? = some x) :
  fh l (rk l n) ls=some ⟨false,⟨#[]⟩,uD l x ls⟩:=(MT _ Ae _).trans (It C h hx)
end
end
section
open Go.Lib hiding intOf
variable {V:Nat->ByteArray} {b j n:Nat} {r:aX}
section
variable {rs:List Bool}
theorem Jf:∀ {a j:Nat},ZZ rs a<=j->j<a->rs[j]? = some true
 | 0,_,_,h=>absurd h (by omega)
 | a+1,j,h1,h2=>by
  rw [FE] at h1;split at h1
  ·rename_i h;rcases gD j a with h3 | h3
   ·exact Jf h1 h3
   ·have:j=a:=by omega
    rw [this]; exact h
  ·omega
theorem LS {a:Nat}:∀ {j:Nat},a<=j->(∀ i,a<=i->i<j->rs[i]? = some true)->ZZ rs j<=a
 | 0,h,_=>by have:=EF rs 0; omega
 | j+1,h,hr=>by
  rcases gD j a with h3 | h3
  ·have:=EF rs (j+1); omega
  ·rw [FE,if_pos (hr j h3 (by omega))];exact LS h3 fun i h1 h2=>hr i h1 (by omega)
theorem GI:∀ {f b j:Nat},b<=j->j<Kb rs f b->rs[j]? = some true
 | 0,b,j,h1,h2=>by have:Kb rs 0 b=b:=rfl; omega
 | f+1,b,j,h1,h2=>by
  rw [GJ] at h2;split at h2
  ·rename_i h;rcases Nat.eq_or_lt_of_le h1 with h3 | h3
   ·rw [<- h3]; exact h
   ·exact GI h3 h2
  ·omega
def uU (rs:List Bool) (n:Nat):Nat:=(blk rs n).1
theorem xz (h:rs[n]? ≠ some true):uU rs n=n:=by unfold uU blk; rw [if_neg h]
theorem Af (h:rs[n]? = some true):uU rs n=ZZ rs n:=by unfold uU blk; rw [if_pos h]
theorem Mv (n:Nat):uU rs n<=n:=by
 by_cases h:rs[n]? = some true
 ·rw [Af h]; exact EF rs n
 ·rw [xz h]; omega
theorem Gm (h:rs[n]? = some true) (h1:ZZ rs n<=j) (h2:j<Ge rs n):rs[j]? = some true:=by
 unfold Ge at h2;rw [if_pos h] at h2;unfold blk at h2;rw [if_pos h] at h2;rcases Nat.lt_trichotomy j n with h3 | h3 | h3
 ·exact Jf h1 h3
 ·rw [h3]; exact h
 ·exact GI h3 h2
theorem Dc (h:rs[n]? = some true) (hj:j<Ge rs n) (hp:rs[j]? ≠ some true):j<uU rs n:=by
 rw [Af h];rcases gD j (ZZ rs n) with h3 | h3
 ·exact h3
 ·exact absurd (Gm h h3 hj) hp
theorem ER (h:rs[n]? = some true) (hj:j<Ge rs n) (hp:rs[j]? = some true):uU rs j<=uU rs n:=by
 rw [Af h,Af hp];rcases gD j (ZZ rs n) with h3 | h3
 ·have:=EF rs j; omega
 ·exact LS h3 fun i h1 h2=>Gm h h1 (by omega)
theorem EL (h:rs[n]? ≠ some true) (hj:j<Ge rs n):uU rs j<uU rs n:=by
 unfold Ge at hj;rw [if_neg h] at hj;rw [xz h];have:=Mv (rs:=rs) j;omega
end
def zv (p:Nat->Bool):Nat->Nat
 | 0=>0
 | k+1=>if p k then 2 ^ k+zv p k else zv p k
theorem Ch (p:Nat->Bool):∀ k,zv p k<2 ^ k
 | 0=>by simp [zv]
 | k+1=>by
  have:=Ch p k;have h2:2 ^ (k+1)=2 ^ k+2 ^ k:=by rw [Be]; omega
  unfold zv;split <;> omega
theorem Ci (p:Nat->Bool):∀ k b,(zv p k).testBit b=(decide (b<k)&&p b)
 | 0,b=>by simp [zv]
 | k+1,b=>by
  have ih:=Ci p k b;have hlt:=Ch p k;unfold zv;rcases Nat.lt_trichotomy b k with h | h | h
  ·rw [decide_eq_true (by omega),Av];rw [decide_eq_true h,Av] at ih;split
   ·rw [Nat.testBit_two_pow_add_gt h]; exact ih
   ·exact ih
  ·subst h;rw [decide_eq_true (by omega),Av];split
   ·rename_i hp;rw [Nat.testBit_two_pow_add_eq,DE hlt,hp]; rfl
   ·rename_i hp;rw [DE hlt];simpa using hp
  ·rw [decide_eq_false (by omega),Bool.false_and];have h2:2 ^ (k+1)=2 ^ k+2 ^ k:=by rw [Be]; omega
   have h3:2 ^ (k+1)<=2 ^ b:=ux (by omega) (by omega);split <;> exact DE (by omega)
section
variable (l:List aX) (inp:ah->ByteArray)
noncomputable def vf (V:Nat->ByteArray) (x:fZ) (ls:List ByteArray):ByteArray:=if x.t1=true then inp (uD l x ls) else V (uE x ls).toNat
noncomputable def sF (V:Nat->ByteArray) (r:aX):Nat->List ByteArray
 | 0=>[]
 | k+1=>match r.g[k]? with
  | none=>sF V r k
  | some x=>sF V r k++[vf l inp V x (sF V r k)]
inductive RB (V:Nat->ByteArray):Nat->Nat->Prop
 | own {n b:Nat} {r:aX}:l[n]? = some r->r.C.toNat.testBit b=true->RB V n b
 | ask {n b:Nat} {r:aX} {x:fZ}:l[n]? = some r->x∈r.g->(x.t1=true∨(bS l)[x.N.toNat]? ≠ some true)->(jk (vf l inp V x [])).toNat.testBit b=true->RB V n b
 | ring {n b:Nat} {r:aX} {x:fZ}:l[n]? = some r->x∈r.g->x.t1=false->(bS l)[x.N.toNat]? = some true->RB V x.N.toNat b->RB V n b
open Classical in
noncomputable def KE (V:Nat->ByteArray) (n:Nat):ByteArray:=match l[n]? with
 | none=>⟨#[]⟩
 | some r=>if r.o=true then db (zv (fun b=>decide (RB l inp V n b)) 16:Nat) else db (wz r (sF l inp V r r.g.length))
noncomputable def Wd:Nat->Nat->ByteArray
 | 0=>fun _=>⟨#[]⟩
 | k+1=>fun n=>if uU (bS l) n<k then Wd k n else KE l inp (Wd k) n
noncomputable def Vd (n:Nat):ByteArray:=Wd l inp (uU (bS l) n+1) n
theorem OD:∀ {k n:Nat},uU (bS l) n<k->Wd l inp k n=Vd l inp n
 | 0,n,h=>absurd h (by omega)
 | k+1,n,h=>by
  rcases gD (uU (bS l) n) k with h1 | h1
  ·show (if uU (bS l) n<k then Wd l inp k n else _)=_;rw [if_pos h1];exact OD h1
  ·obtain rfl:k=uU (bS l) n:=by omega
   rfl
variable {l inp}
theorem Jn (C:bM l) (h:l[n]? = some r) (hr:r.o=true) {k:Nat} {x:fZ} (hx:r.g[k]? = some x) (ls:List ByteArray):uE x ls=x.N:=by
 have:=(C.each n r h).each k x hx;unfold uE;rw [if_neg];rintro⟨hp,_⟩;have:=(this.pick hp).1;rw [hr] at this; cases this
theorem o7 (h:l[n]? = some r):(bS l)[n]? = some r.o:=by
 have:=bh h;rw [sd this];rw [cH this] at h;rw [cC h]
theorem B9 {V':Nat->ByteArray} (C:bM l) (h:l[n]? = some r) (hr:r.o=false) (hV:∀ j,uU (bS l) j<uU (bS l) n->V j=V' j):∀ k,sF l inp V r k=sF l inp V' r k
 | 0=>rfl
 | k+1=>by
  have ih:=B9 C h hr hV k;unfold sF;cases hx:r.g[k]? with
  | none=>exact ih
  | some x =>
   dsimp only;rw [ih];congr 2;unfold vf;obtain⟨_,⟨hc,_⟩|⟨hc,j,hj,e1,_⟩⟩:=rF C h hx (sF l inp V' r k)
   ·rw [if_pos hc,if_pos hc]
   ·rw [if_neg (by rw [hc]; simp),if_neg (by rw [hc]; simp),e1];exact hV _ (EL (by rw [o7 h,hr]; simp) hj)
theorem Gg {V':Nat->ByteArray} (C:bM l) {n0:Nat} (hV:∀ j,uU (bS l) j<uU (bS l) n0->V j=V' j) (h:RB l inp V n b):(bS l)[n]? = some true->uU (bS l) n<=uU (bS l) n0->RB l inp V' n b:=by
 induction h with
 | own h1 h2=>exact fun _ _=>.own h1 h2
 | @ask n b r x h1 h2 h3 h4 =>
  intro hr hn;obtain⟨k,O⟩:=nP.1 h2;have hrr:r.o=true:=by rw [o7 h1] at hr; exact cC hr
  have e:=Jn C h1 hrr O [];refine .ask h1 h2 h3 ?_;rw [<- h4];congr 3;unfold vf;obtain⟨_,⟨hc,_⟩|⟨hc,j,hj,e1,_⟩⟩:=rF C h1 O []
  ·rw [if_pos hc,if_pos hc]
  ·rw [if_neg (by rw [hc]; simp),if_neg (by rw [hc]; simp),e1];have e2:x.N.toNat=j:=by omega
   rw [hc,e2] at h3;have hp:(bS l)[j]? ≠ some true:=by rcases h3 with h3 | h3; cases h3; exact h3
   have:=Dc hr hj hp;exact (hV _ (by rw [show ((j:Nat):Int).toNat=j by omega,xz hp]; omega)).symm
 | @ring n b r x h1 h2 h3 h4 h5 ih =>
  intro hr hn;obtain⟨k,O⟩:=nP.1 h2;have hrr:r.o=true:=by rw [o7 h1] at hr; exact cC hr
  have e:=Jn C h1 hrr O [];refine .ring h1 h2 h3 h4 (ih h4 ?_);obtain⟨_,⟨hc,_⟩|⟨hc,j,hj,e1,_⟩⟩:=rF C h1 O []
  ·rw [h3] at hc; cases hc
  ·have e2:x.N.toNat=j:=by omega
   rw [e2] at h4 ⊢;have:=ER hr hj h4;omega
theorem IK (C:bM l) (hn:n<l.length):Vd l inp n=KE l inp (Vd l inp) n:=by
 have hg:=cH hn;have e:Vd l inp n=KE l inp (Wd l inp (uU (bS l) n)) n:=by
  show (if uU (bS l) n<uU (bS l) n then _ else _)=_;rw [if_neg (by omega)]
 rw [e];have hV:∀ j,uU (bS l) j<uU (bS l) n->Wd l inp (uU (bS l) n) j=Vd l inp j:=fun j hj=>OD l inp hj;unfold KE;rw [hg];dsimp only;cases hr:l[n].o with
 | false=>rw [if_neg (by simp),if_neg (by simp),B9 C hg hr hV]
 | true =>
  rw [if_pos rfl,if_pos rfl];have hr2:(bS l)[n]? = some true:=by rw [o7 hg,hr]
  have:∀ b,RB l inp (Wd l inp (uU (bS l) n)) n b↔RB l inp (Vd l inp) n b:=fun b =>
   ⟨fun h=>Gg C hV h hr2 (cm _),fun h=>Gg C (fun j hj=>(hV j hj).symm) h hr2 (cm _)⟩
  congr 3;funext b;rw [decide_eq_decide];exact this b
end
structure Fc (l:List aX) (inp:ah->ByteArray) (V:Nat->ByteArray):Prop where
 plain:∀ n r,l[n]? = some r->r.o=false->V n=db (wz r (sF l inp V r r.g.length))
 ring:∀ n r,l[n]? = some r->r.o=true->∃ u:Nat,V n=db u/\u<65536/\∀ b,u.testBit b=true↔RB l inp V n b
theorem Dv {u:Nat} (h:u<65536) (ht:u.testBit b=true):b<16:=by
 rcases gD b 16 with h1 | h1
 ·exact h1
 ·have:2 ^ 16<=2 ^ b:=ux (by omega) h1;rw [DE (by have:2 ^ 16=65536:=rfl; omega)] at ht;cases ht
theorem QU {l:List aX} {inp:ah->ByteArray} (C:bM l) (h:RB l inp V n b):b<16:=by
 induction h with
 | own h1 h2 =>
  rename_i n b r;have hr:=C.each _ _ h1;refine Dv ?_ h2;cases hg:r.o with
  | true=>have:=hr.ring hg; omega
  | false=>have:=hr.plain hg; omega
 | ask h1 h2 h3 h4 =>
  refine Dv ?_ h4;rename_i x;have:=ku (vf l inp V x []);omega
 | ring _ _ _ _ _ ih=>exact ih
theorem Lf {l:List aX} (inp:ah->ByteArray) (C:bM l):Fc l inp (Vd l inp):=by
 refine⟨fun n r h hr=>?_,fun n r h hr=>?_⟩
 ·rw [IK C (bh h)];unfold KE;rw [h];dsimp only;rw [if_neg (by rw [hr]; simp)]
 ·classical
  rw [IK C (bh h)];unfold KE;rw [h];dsimp only;rw [if_pos hr];refine⟨_,rfl,Ch _ 16,fun b=>?_⟩;rw [Ci,qj,decide_eq_true_eq,decide_eq_true_eq];exact⟨fun h=>h.2,fun h=>⟨QU C h,h⟩⟩
end
section
open Go.Lib hiding intOf
variable {a:Nat->Nat} {idx:List Nat} {list:List ah} {m memo memo':List (ah×ByteArray)} {n0:Nat}
theorem LD {a b:ah} (h:a≠b):aW a b=false:=by rw [<- Hv]; exact fun e=>h ((qY a b).1 e)
theorem GO (a:ah):aW a a=true:=(qY a a).2 rfl
theorem iV {ν:Type} (k:ah) (v:ν) (m:List (ah×ν)):dx aW k (gT aW k v m)=some v:=by rw [zN qY,GO]; rfl
theorem mR {ν:Type} {k k':ah} (h:k≠k') (v:ν) (m:List (ah×ν)):dx aW k (gT aW k' v m)=dx aW k m:=by rw [zN qY,LD h]; rfl
def H3 (b:ao) (k:ah):bc:=match b.i.find? (fun x=>jK x.d k) with | some x=>x | none=>⟨k,⟨#[]⟩,0⟩
theorem EP {b:ao} (hb:Rm b.i.length) (k:ah):qJ b k=some (H3 b k):=by
 unfold Rm at hb;have key:loop (fun s:Int=>i7 b k s) 0=some (match b.i.find? (fun x=>jK x.d k) with | some x=>Fl.out x | none=>Fl.go ()):=by
  rcases qA (xs:=b.i) (B:=fun s:Int=>i7 b k s) (fun x=>jK x.d k) (fun i=>(i:Int)) (s0:=0) rfl (y:=fun _ x=>Fl.out x) (n:=Fl.go ()) (fun i x hx hp=>by
   unfold i7;rw [gO hx,cond_true,bn,hx,ad,cJ (by have:=bh hx; omega)];show cond (jK x.d k) _ _=_;rw [hp]; rfl) (fun i x hx hp=>by
   unfold i7;rw [gO hx,cond_true,bn,hx,ad];show cond (jK x.d k) _ _=_;rw [hp]; rfl) (by unfold i7; rw [bN]; rfl) with⟨i,x,h1,h2,h3,h4⟩|⟨h1,h2⟩
  ·rw [h4,I6 (p:=fun x=>jK x.d k) h1 h2 h3]
  ·rw [h2,Hy.2 fun x hx=>by rw [h1 x hx]; simp]
 unfold qJ;rw [key];unfold H3;cases b.i.find? (fun x=>jK x.d k) <;> rfl
theorem I7 {b:ao} (hb:Rm b.i.length) (k:ah):pj b k=some (H3 b k).u:=by
 unfold pj;rw [EP hb]; rfl
theorem Fz:db ((0:Nat):Int)=⟨#[48]⟩:=by
 unfold db;rw [pB];unfold decDigits;simp
def lW (m m':List (ah×ByteArray)):Prop:=∀ k v,dx aW k m=some v->dx aW k m'=some v
theorem lW.refl (m:List (ah×ByteArray)):lW m m:=fun _ _ h=>h
theorem lW.trans {a b c:List (ah×ByteArray)} (h:lW a b) (k:lW b c):lW a c:=fun x v e=>k x v (h x v e)
theorem lW.has {a b:List (ah×ByteArray)} (h:lW a b) {k:ah} (e:dx aW k a≠none):dx aW k b≠none:=by
 cases O:dx aW k a with
 | none=>exact absurd O e
 | some v=>rw [h k v O]; simp
structure uz (l:List aX) (V:Nat->ByteArray) (b:ao) (s:az):Prop where
 rules:s.a=l
 base:s.b=b
 memo:∀ n,n<l.length->∀ v,dx aW (rk l n) s.e=some v->v=V n
 cell:∀ c,dx aW (ia c) s.e=none
section
variable {l:List aX} {V:Nat->ByteArray} {b:ao} {inp:ah->ByteArray}
theorem uz.put {s:az} (h:uz l V b s) {n:Nat} (hn:n<l.length) (hl:l.length<=8):uz l V b ⟨s.a,s.b,gT aW (rk l n) (V n) s.e,s.n⟩/\lW s.e (gT aW (rk l n) (V n) s.e):=by
 refine⟨⟨h.rules,h.base,fun m hm v e=>?_,fun c=>?_⟩,fun k v e=>?_⟩
 ·by_cases O:m=n
  ·subst O;rw [iV] at e;exact (cC e).symm
  ·rw [mR (fun e=>O (Dd (by omega) (by omega) e))] at e;exact h.memo m hm v e
 ·rw [mR IT];exact h.cell c
 ·by_cases O:k=rk l n
  ·subst O;rw [iV,h.memo n hn v e]
  ·rw [mR O,e]
def KK (l:List aX) (x:fZ):Prop:=x.t1=true∨(bS l)[x.N.toNat]? ≠ some true
def xN (l:List aX) (V:Nat->ByteArray) (inp:ah->ByteArray) (memo0 memo:List (ah×ByteArray)) (idx:List Nat) (a:Nat->Nat) (x:fZ) (v:ByteArray):Prop :=
 (KK l x/\v=vf l inp V x [])∨(¬ KK l x/\((dx aW (rk l x.N.toNat) memo≠none/\v=V x.N.toNat)∨(x.N.toNat∈idx/\v=db (a x.N.toNat:Nat)/\dx aW (rk l x.N.toNat) memo0=none)))
theorem xN.mono {memo0:List (ah×ByteArray)} {idx':List Nat} {x:fZ} {v:ByteArray} (h:xN l V inp memo0 memo idx a x v) (hg:lW memo memo') (hi:∀ i∈idx,i∈idx'):xN l V inp memo0 memo' idx' a x v:=by
 rcases h with h | ⟨h0,⟨h1,h2⟩|⟨h1,h2,h3⟩⟩
 ·exact .inl h
 ·exact .inr ⟨h0,.inl ⟨hg.has h1,h2⟩⟩
 ·exact .inr ⟨h0,.inr ⟨hi _ h1,h2,h3⟩⟩
def Vw (l:List aX) (V:Nat->ByteArray) (inp:ah->ByteArray) (memo:List (ah×ByteArray)) (a:Nat->Nat) (x:fZ) (q:Nat):Prop :=
 (KK l x/\(jk (vf l inp V x [])).toNat.testBit q=true)∨(¬ KK l x/\((dx aW (rk l x.N.toNat) memo≠none/\RB l inp V x.N.toNat q)∨(a x.N.toNat).testBit q=true))
def Fb (l:List aX) (V:Nat->ByteArray) (inp:ah->ByteArray) (memo:List (ah×ByteArray)) (a:Nat->Nat) (i q:Nat):Prop:=∃ r,l[i]? = some r/\(r.C.toNat.testBit q=true∨∃ x∈r.g,Vw l V inp memo a x q)
theorem Fb.mono {a':Nat->Nat} {i q:Nat} (h:Fb l V inp memo a i q) (hg:lW memo memo') (ha:∀ j q,(a j).testBit q=true->(a' j).testBit q=true):Fb l V inp memo' a' i q:=by
 obtain⟨r,h1,h2 | ⟨x,h2,h3⟩⟩:=h
 ·exact⟨r,h1,.inl h2⟩
 ·refine⟨r,h1,.inr ⟨x,h2,?_⟩⟩;rcases h3 with h3 | ⟨h0,⟨h3,h4⟩ | h3⟩
  ·exact .inl h3
  ·exact .inr ⟨h0,.inl ⟨hg.has h3,h4⟩⟩
  ·exact .inr ⟨h0,.inr (ha _ _ h3)⟩
structure BD (l:List aX) (V:Nat->ByteArray) (inp:ah->ByteArray) (n0:Nat) (memo:List (ah×ByteArray)) (m:List (ah×ByteArray)) (list:List ah) (idx:List Nat) (a:Nat->Nat):Prop where
 eq:list=idx.map (rk l)
 nd:idx.Nodup
 ring:∀ i∈idx,i<l.length/\(bS l)[i]? = some true/\uU (bS l) i<=uU (bS l) n0
 head:n0∈idx
 get:∀ i,i<l.length->dx aW (rk l i) m=if i∈idx then some (db (a i:Nat)) else none
 zero:∀ i,i ∉ idx->a i=0
 lt:∀ i,a i<65536
 le:∀ i q,(a i).testBit q=true->RB l inp V i q
 up:∀ i∈idx,∀ q,(a i).testBit q=true->Fb l V inp memo a i q
theorem L3 (hn:idx.Nodup) {N:Nat} (h:∀ i∈idx,i<N):idx.length<=N:=by
 have:=qE hn (m:=List.range N) fun x hx=>vS.2 (h x hx);rwa [BC] at this
theorem BD.len (h:BD l V inp n0 memo m list idx a):list.length=idx.length/\idx.length<=l.length :=
 ⟨by rw [h.eq,oz],L3 h.nd fun i hi=>(h.ring i hi).1⟩
theorem BD.grow (h:BD l V inp n0 memo m list idx a) (hg:lW memo memo'):BD l V inp n0 memo' m list idx a :=
 ⟨h.eq,h.nd,h.ring,h.head,h.get,h.zero,h.lt,h.le,fun i hi q hq=>(h.up i hi q hq).mono hg fun _ _ e=>e⟩
theorem BD.add (h:BD l V inp n0 memo m list idx a) (hl:l.length<=8) {j:Nat} (hj:j<l.length) (hr:(bS l)[j]? = some true) (O:uU (bS l) j<=uU (bS l) n0) (hn:j ∉ idx) :
  BD l V inp n0 memo (gT aW (rk l j) ⟨#[48]⟩ m) (list++[rk l j]) (idx++[j]) a:=by
 refine⟨by rw [h.eq,Az]; rfl,?_,?_,oA _ h.head,?_,fun i hi=>h.zero i fun e=>hi (oA _ e),h.lt,h.le,?_⟩
 ·rw [List.nodup_append];exact⟨h.nd,by simp,fun x hx y hy=>by rw [dF.1 hy]; exact fun e=>hn (e▸hx)⟩
 ·intro i hi;rcases dw.1 hi with hi | hi
  ·exact h.ring i hi
  ·rw [dF.1 hi]; exact⟨hj,hr,O⟩
 ·intro i hi;by_cases e:i=j
  ·subst e;rw [iV,if_pos (xj _ (dF.2 rfl)),h.zero i hn,Fz]
  ·rw [mR (fun e2=>e (Dd (by omega) (by omega) e2)),h.get i hi];have:(i∈idx++[j])↔i∈idx:=by rw [dw,dF]; exact⟨fun h=>h.resolve_right e,.inl⟩
   simp only [this]
 ·intro i hi q hq;rcases dw.1 hi with hi | hi
  ·exact h.up i hi q hq
  ·rw [dF.1 hi,h.zero j hn] at hq;simp at hq
end
end
section
open Go.Lib hiding intOf
theorem GG:∀ (xs:List Nat) (c q:Nat),(xs.foldl (· ||| ·) c).testBit q=true↔c.testBit q=true∨∃ x∈xs,x.testBit q=true
 | [],c,q=>by simp
 | x::xs,c,q=>by
  rw [Hz,GG xs (c ||| x) q,Nat.testBit_or,yg];simp only [dX];constructor
  ·rintro ((h | h) | ⟨y,h1,h2⟩)
   ·exact .inl h
   ·exact .inr ⟨x,.inl rfl,h⟩
   ·exact .inr ⟨y,.inr h1,h2⟩
  ·rintro (h | ⟨y,rfl | h1,h2⟩)
   ·exact .inl (.inl h)
   ·exact .inl (.inr h2)
   ·exact .inr ⟨y,h1,h2⟩
section
variable {l:List aX} {V:Nat->ByteArray} {b:ao} {inp:ah->ByteArray}
theorem Lm (C:bM l) {n:Nat} {r:aX} (h:l[n]? = some r) (hr:r.o=true) (ls:List ByteArray) :
  ∃ m:Nat,wz r ls=m/\m<65536/\∀ q,m.testBit q=true↔r.C.toNat.testBit q=true∨∃ v∈ls,(jk v).toNat.testBit q=true:=by
 obtain⟨h1,h2,h3⟩:=(C.each n r h).ring hr;obtain⟨c,hc⟩:∃ c:Nat,r.C=c:=⟨r.C.toNat,by omega⟩;have e:ls.map jk=(ls.map fun s=>(jk s).toNat).map fun x:Nat=>(x:Int):=by
  rw [AA];refine HE fun s _=>?_;have:=ku s;simp only [Function.comp];omega
 have:=Fx (ls.map fun s=>(jk s).toNat) c (fun x hx=>by
  obtain⟨s,_,rfl⟩:=kC.1 hx;have:=ku s;omega) (by omega)
 refine⟨(ls.map fun s=>(jk s).toNat).foldl (· ||| ·) c,?_,this.2,fun q=>?_⟩
 ·unfold wz;dsimp only;rw [if_neg (by omega),if_neg (by omega),if_neg (by omega),if_neg (by omega),e,hc];exact this.1
 ·rw [GG,hc];rw [show ((c:Nat):Int).toNat=c from sC c];refine or_congr Iff.rfl ⟨fun ⟨x,hx,hq⟩=>?_,fun ⟨v,hv,hq⟩=>⟨_,kC.2 ⟨v,hv,rfl⟩,hq⟩⟩;obtain⟨v,hv,rfl⟩:=kC.1 hx;exact⟨v,hv,hq⟩
def QS (l:List aX) (V:Nat->ByteArray) (b:ao) (inp:ah->ByteArray) (n0:Nat) (a:Nat->Nat) (i:Nat) (r:aX) (memo0:List (ah×ByteArray)) (idx0:List Nat) (ch0:Bool) (k:Nat) :
  (List (ah×ByteArray))×(List ah)×Bool×(List ByteArray)×(List aX)×Int×(List bc)×(List ay)×(List (ah×ByteArray))×(List (ah×(List ah)))×Bool×ByteArray×Int×ByteArray->Prop
 | (m,list,ch,ws,rules,rev,inps,recs,memo,seen,d,v,ak,at_) =>
  ∃ (idx:List Nat),BD l V inp n0 memo m list idx a/\uz l V b (az.mk rules (ao.mk rev inps recs) memo seen)/\lW memo0 memo/\idx0 <+: idx/\((ch=ch0/\idx=idx0)∨(ch=true/\idx0.length<idx.length)) /\
   ws.length=k/\(∀ q x,q<k->r.g[q]? = some x->∃ v,ws[q]? = some v/\xN l V inp memo0 memo idx a x v)/\fh l (rk l i) ws=some ⟨d,v,⟨ak,at_⟩⟩
def KM (l:List aX) (V:Nat->ByteArray) (b:ao) (inp:ah->ByteArray) (n0:Nat) (a:Nat->Nat) (i:Nat) (r:aX) (memo0:List (ah×ByteArray)) (idx0:List Nat) (ch0:Bool) :
  (List (ah×ByteArray))×(List ah)×Bool×(List aX)×Int×(List bc)×(List ay)×(List (ah×ByteArray))×(List (ah×(List ah)))×Bool×ByteArray×Int×ByteArray->Prop
 | (m,list,ch,rules,rev,inps,recs,memo,seen,d,v,ak,at_) =>
  ∃ (idx:List Nat) (ws:List ByteArray),BD l V inp n0 memo m list idx a/\uz l V b (az.mk rules (ao.mk rev inps recs) memo seen)/\lW memo0 memo/\idx0 <+: idx/\((ch=ch0/\idx=idx0)∨(ch=true/\idx0.length<idx.length)) /\
   ws.length=r.g.length/\(∀ (q:Nat) (x:fZ),r.g[q]? = some x->∃ (w:ByteArray),ws[q]? = some w/\xN l V inp memo0 memo idx a x w)/\v=db (wz r ws)
section
variable {n0:Nat} {a:Nat->Nat} {i p:Nat} {r:aX} {memo0:List (ah×ByteArray)} {idx0:List Nat} {ch0:Bool} (C:bM l) (hi:l[i]? = some r) (hr:r.o=true) (hp:idx0[p]? = some i)
include C hi
theorem xD {ws:List ByteArray} (h:ws.length<=r.g.length):∃ t,fh l (rk l i) ws=some t/\((ws.length=r.g.length/\t=⟨true,db (wz r ws),⟨0,⟨#[]⟩⟩⟩)∨∃ x,r.g[ws.length]? = some x/\t=⟨false,⟨#[]⟩,uD l x ws⟩):=by
 rcases gD ws.length r.g.length with h1 | h1
 ·exact⟨_,Dx C hi (cH h1),.inr ⟨_,cH h1,rfl⟩⟩
 ·exact⟨_,A5 C hi h1,.inl ⟨by omega,by rw [Ba (by omega)]⟩⟩
include hp
theorem Sj {k:Nat} {m:List (ah×ByteArray)} {list:List ah} {ch:Bool} {ws:List ByteArray} {rules:List aX} {rev:Int} {inps:List bc} {recs:List ay} {memo:List (ah×ByteArray)} {seen:List (ah×(List ah))} {idx:List Nat} {x:fZ} {v:ByteArray}
  (h1:BD l V inp n0 memo m list idx a) (h2:uz l V b (az.mk rules (ao.mk rev inps recs) memo seen)) (h3:lW memo0 memo) (h4:idx0 <+: idx) (h5:(ch=ch0/\idx=idx0)∨(ch=true/\idx0.length<idx.length))
  (h6:ws.length=k) (h7:∀ q x,q<k->r.g[q]? = some x->∃ v,ws[q]? = some v/\xN l V inp memo0 memo idx a x v) (hx:r.g[k]? = some x) (hv:xN l V inp memo0 memo idx a x v) :
  Ok (dd p ws m list ch v rules rev inps recs memo seen) fun y=>match y with
   | .go s'=>k<r.g.length/\QS l V b inp n0 a i r memo0 idx0 ch0 (k+1) s'
   | .out y=>KM l V b inp n0 a i r memo0 idx0 ch0 y:=by
 have O:=bh hx;have h3l:=(C.each i r hi).asks;obtain⟨t,ht,_⟩:=xD C hi (ws:=ws++[v]) (by rw [bk,h6]; simp; omega);have hlist:bO list (p:Int)=some (rk l i):=by
  obtain⟨u,rfl⟩:=h4;rw [bn,h1.eq,sf,se (bh hp),hp]; rfl
 have hru:rules=l:=h2.rules;unfold dd;refine bC (dk (by simp; omega)) (aG hlist (aG (by rw [hru]; exact ht) (ae ⟨O,idx,h1,h2,h3,h4,h5,by rw [bk,h6]; rfl,fun q y hq hy=>?_,ht⟩)));rcases gD q k with h | h
 ·obtain⟨w,hw1,hw2⟩:=h7 q y h hy;exact⟨w,by rw [se (bh hw1)]; exact hw1,hw2⟩
 ·obtain rfl:q=k:=by omega
  rw [hx] at hy;obtain rfl:=cC hy;exact⟨v,by rw [ua (by omega),h6]; simp,hv⟩
end
end
end
section
open Go.Lib hiding intOf
structure Px (l:List aX) (V:Nat->ByteArray) (b:ao) (inp:ah->ByteArray) (ρ:Nat) (vrec:az->ah->Option (ByteArray×az)):Prop where
 rule:∀ s n,uz l V b s->n<l.length->uU (bS l) n<ρ->Ok (vrec s (rk l n)) fun y=>y.1=V n/\uz l V b y.2/\lW s.e y.2.e
 cell:∀ s c,uz l V b s->c<10->Ok (vrec s (ia c)) fun y=>y.1=inp (ia c)/\y.2=s
section
variable {l:List aX} {V:Nat->ByteArray} {b:ao} {inp:ah->ByteArray} {vrec:az->ah->Option (ByteArray×az)}
variable {n0:Nat} {a:Nat->Nat} {i p:Nat} {r:aX} {memo0:List (ah×ByteArray)} {idx0:List Nat} {ch0:Bool} (C:bM l) (hv:Px l V b inp (uU (bS l) n0) vrec) (hi:l[i]? = some r) (hr:r.o=true) (hp:idx0[p]? = some i)
include C hv hi hr hp
theorem So {k:Nat} (O:k<=r.g.length):∀ s,QS l V b inp n0 a i r memo0 idx0 ch0 k s->Ok (eV vrec p s.1 s.2.1 s.2.2.1 s.2.2.2.1 s.2.2.2.2.1 s.2.2.2.2.2.1 s.2.2.2.2.2.2.1 s.2.2.2.2.2.2.2.1 s.2.2.2.2.2.2.2.2.1 s.2.2.2.2.2.2.2.2.2.1 s.2.2.2.2.2.2.2.2.2.2.1 s.2.2.2.2.2.2.2.2.2.2.2.1 s.2.2.2.2.2.2.2.2.2.2.2.2.1 s.2.2.2.2.2.2.2.2.2.2.2.2.2) fun y=>match y with
   | .go s'=>k<r.g.length/\QS l V b inp n0 a i r memo0 idx0 ch0 (k+1) s'
   | .out y=>KM l V b inp n0 a i r memo0 idx0 ch0 y:=by
 rintro⟨m,list,ch,ws,rules,rev,inps,recs,memo,seen,d,v,ak,at_⟩ ⟨idx,h1,h2,h3,h4,h5,h6,h7,h8⟩;dsimp only;have hl8:=C.high;obtain⟨t,ht,hcase⟩:=xD C hi (ws:=ws) (by omega);rw [h8] at ht;obtain rfl:=cC ht;have hiI:i∈idx:=h4.subset (aD hp);unfold eV;rcases hcase with⟨e1,e2⟩|⟨x,hx,e2⟩
 ·injection e2 with ed ev ea;subst ed;simp only [dJ,cond_false];exact ae ⟨idx,ws,h1,h2,h3,h4,h5,e1,fun q x hx=>h7 q x (by have:=bh hx; omega) hx,ev⟩
 ·injection e2 with ed ev ea;subst ed;rw [h6] at hx;have n1:=Jn C hi hr hx ws;have n2:=Jn C hi hr hx [];obtain⟨g0,hg⟩:=rF C hi hx ws;simp only [fv,cond_true,ad];rw [ea];have done:∀ {m list ch rules rev inps recs memo seen} {idx:List Nat} {w:ByteArray},BD l V inp n0 memo m list idx a->uz l V b (az.mk rules (ao.mk rev inps recs) memo seen)->lW memo0 memo->idx0 <+: idx->((ch=ch0/\idx=idx0)∨(ch=true/\idx0.length<idx.length)) ->
    (∀ q x,q<k->r.g[q]? = some x->∃ v,ws[q]? = some v/\xN l V inp memo0 memo idx a x v)->xN l V inp memo0 memo idx a x w->Ok (dd p ws m list ch w rules rev inps recs memo seen) fun y=>match y with
   | .go s'=>k<r.g.length/\QS l V b inp n0 a i r memo0 idx0 ch0 (k+1) s'
   | .out y=>KM l V b inp n0 a i r memo0 idx0 ch0 y:=fun q1 q2 q3 q4 q5 q6 q7=>Sj C hi hp q1 q2 q3 q4 q5 h6 q6 hx q7
  rcases hg with⟨hc,c,hc4,e3,e4⟩|⟨hc,j,hj,e3,e4⟩
  ·have hB:KK l x:=.inl hc;have U:vf l inp V x []=inp (ia c):=by
    unfold vf uD;rw [if_pos hc,if_pos hc,n2,<- n1,e3]; rfl
   rw [e4,h2.cell c];simp only [Option.isSome_none,cond_false];refine aG (im _) ?_;rw [J0];simp only [fv,cond_true];refine ai (hv.cell _ c h2 hc4) fun y hy=>?_;obtain⟨y1,y2⟩:=y;obtain⟨f1,f2⟩:=hy;simp only at f1 f2;subst f1 f2;exact done h1 h2 h3 h4 h5 h7 (.inl ⟨hB,U.symm⟩)
  ·have hll:=CV (bh hi);have hjl:j<l.length:=by omega
   have hxj:x.N.toNat=j:=by omega
   have hri:(bS l)[i]? = some true:=by rw [o7 hi,hr]
   have hio:=h1.ring i hiI;rw [e4];cases hm:dx aW (rk l j) memo with
   | some w =>
    have hw:=h2.memo j hjl w hm;simp only [Option.isSome_some,cond_true,Bf];refine done h1 h2 h3 h4 h5 h7 ?_;by_cases hB:KK l x
    ·refine .inl ⟨hB,?_⟩;unfold vf;rw [if_neg (by rw [hc]; simp),n2,hxj,hw]
    ·exact .inr ⟨hB,.inl ⟨by rw [hxj,hm]; simp,by rw [hxj,hw]⟩⟩
   | none =>
    simp only [Option.isSome_none,cond_false];refine aG (im _) ?_;rw [Jp];by_cases hrj:(bS l)[j]? = some true
    ·have hB:¬ KK l x:=by
      rintro (h | h)
      ·rw [hc] at h; cases h
      ·rw [hxj] at h; exact h hrj
     have hm0:dx aW (rk l x.N.toNat) memo0=none:=by
      rw [hxj];cases h0:dx aW (rk l j) memo0 with
      | none=>rfl
      | some w=>rw [h3 _ _ h0] at hm; cases hm
     rw [decide_eq_true hrj];simp only [dJ,cond_false];have hg:=h1.get j hjl;by_cases hjI:j∈idx
     ·rw [if_pos hjI] at hg;rw [hg];simp only [Option.isSome_some,dJ,cond_false];unfold eU;rw [ea,e4,hg];exact done h1 h2 h3 h4 h5 h7 (.inr ⟨hB,.inr ⟨by rw [hxj]; exact hjI,by rw [hxj]; rfl,hm0⟩⟩)
     ·rw [if_neg hjI] at hg;rw [hg];simp only [Option.isSome_none,fv,cond_true];have hL:ly (rk l j)=some ⟨#[48]⟩:=by
       unfold ly;rcases sQ (l:=l) (n:=j) with⟨_,h⟩|⟨h,_⟩
       ·exact absurd hrj h
       ·rw [h]; rfl
      have hadd:=h1.add hl8 hjl hrj (by have:=ER hri hj hrj; omega) hjI;have hlen:=h1.len;refine aG hL (bC (dk (by simp; omega)) ?_);unfold eU;rw [ea,e4,iV];refine done hadd h2 h3 (h4.trans (List.prefix_append _ _)) (.inr ⟨rfl,?_⟩) (fun q y hq hy=>?_) (.inr ⟨hB,.inr ⟨by rw [hxj]; exact xj _ (dF.2 rfl),?_,hm0⟩⟩)
      ·have:=h4.length_le;rw [bk]; simp; omega
      ·obtain⟨w,q1,q2⟩:=h7 q y hq hy;exact⟨w,q1,q2.mono (lW.refl _) fun _ h=>oA _ h⟩
      ·rw [hxj,h1.zero j hjI,Fz]; rfl
    ·have hB:KK l x:=.inr (by rw [hxj]; exact hrj);have U:vf l inp V x []=V j:=by
      unfold vf;rw [if_neg (by rw [hc]; simp),n2,hxj]
     rw [decide_eq_false hrj];simp only [fv,cond_true];have hlow:=Dc hri hj hrj;refine ai (hv.rule _ j h2 hjl (by rw [xz hrj]; omega)) fun y hy=>?_;obtain⟨f1,f2,f3⟩:=hy;exact done (h1.grow f3) f2 (h3.trans f3) h4 h5 (fun q y hq hy=>by
      obtain⟨w,q1,q2⟩:=h7 q y hq hy;exact⟨w,q1,q2.mono f3 fun _ h=>h⟩) (.inl ⟨hB,by rw [U,f1]⟩)
theorem MU {m:List (ah×ByteArray)} {list:List ah} {rules:List aX} {rev:Int} {inps:List bc} {recs:List ay} {seen:List (ah×(List ah))} (h1:BD l V inp n0 memo0 m list idx0 a) (h2:uz l V b (az.mk rules (ao.mk rev inps recs) memo0 seen)) {t:uC} (ht:fh l (rk l i) []=some t) {β:Type} {R:β->Prop} {g:_->Option β} (hg:∀ y,KM l V b inp n0 a i r memo0 idx0 ch0 y->Ok (g y) R) :
  Ok ((loop (fun s:(List (ah×ByteArray))×(List ah)×Bool×(List ByteArray)×(List aX)×Int×(List bc)×(List ay)×(List (ah×ByteArray))×(List (ah×(List ah)))×Bool×ByteArray×Int×ByteArray=>eV vrec p s.1 s.2.1 s.2.2.1 s.2.2.2.1 s.2.2.2.2.1 s.2.2.2.2.2.1 s.2.2.2.2.2.2.1 s.2.2.2.2.2.2.2.1 s.2.2.2.2.2.2.2.2.1 s.2.2.2.2.2.2.2.2.2.1 s.2.2.2.2.2.2.2.2.2.2.1 s.2.2.2.2.2.2.2.2.2.2.2.1 s.2.2.2.2.2.2.2.2.2.2.2.2.1 s.2.2.2.2.2.2.2.2.2.2.2.2.2) (m,list,ch0,[],rules,rev,inps,recs,memo0,seen,t.a1,t.u,t.l1.k,t.l1.t)).bind g) R:=by
 refine bV (QS l V b inp n0 a i r memo0 idx0 ch0) (KM l V b inp n0 a i r memo0 idx0 ch0) r.g.length ?_ (fun k s O hI=>(So C hv hi hr hp O s hI).mono fun y hy=>by cases y <;> exact hy) hg;exact⟨idx0,h1,h2,lW.refl _,List.prefix_refl _,.inl ⟨rfl,rfl⟩,rfl,fun q x hq=>absurd hq (by omega),ht⟩
end
end
section
open Go.Lib hiding intOf
def A4 (a:Nat->Nat):Nat->Nat
 | 0=>0
 | n+1=>A4 a n+a n
theorem Jw {a a':Nat->Nat} (h:∀ j,a j<=a' j):∀ n,A4 a n<=A4 a' n
 | 0=>cm _
 | n+1=>Nat.add_le_add (Jw h n) (h n)
theorem Jx {a a':Nat->Nat} (h:∀ j,a j<=a' j) {i:Nat} (hi:a i<a' i):∀ n,i<n->A4 a n<A4 a' n
 | 0,h0=>absurd h0 (by omega)
 | n+1,h0=>by
  have h1:=h n;have h2:=Jw h n;show A4 a n+a n<A4 a' n+a' n;rcases gD i n with h3 | h3
  ·have:=Jx h hi n h3; omega
  ·obtain rfl:i=n:=by omega
   omega
theorem Du {a:Nat->Nat} (h:∀ j,a j<65536):∀ n,A4 a n<=n*65536
 | 0=>by simp [A4]
 | n+1=>by
  have:=Du h n;have:=h n;show A4 a n+a n<=_;omega
theorem Np {a m:Nat} (h:∀ q,a.testBit q=true->m.testBit q=true):a<=m:=by
 have:a &&& m=a:=by
  apply Nat.eq_of_testBit_eq;intro q;rw [Nat.testBit_and];cases ha:a.testBit q with
  | false=>rfl
  | true=>rw [h q ha]; rfl
 rw [<- this];exact Nat.and_le_right
section
variable {l:List aX} {V:Nat->ByteArray} {b:ao} {inp:ah->ByteArray} {vrec:az->ah->Option (ByteArray×az)}
def ZY (l:List aX) (V:Nat->ByteArray) (inp:ah->ByteArray) (idx:List Nat) (a:Nat->Nat) (i:Nat):Prop :=
 ∃ r,l[i]? = some r/\(∀ q,r.C.toNat.testBit q=true->(a i).testBit q=true)/\∀ x∈r.g,(KK l x->∀ q,(jk (vf l inp V x [])).toNat.testBit q=true->(a i).testBit q=true) /\
  (¬ KK l x->(∀ q,RB l inp V x.N.toNat q->(a i).testBit q=true)∨(x.N.toNat∈idx/\∀ q,(a x.N.toNat).testBit q=true->(a i).testBit q=true))
theorem H0 {idx:List Nat} {a:Nat->Nat} (hc:∀ i∈idx,ZY l V inp idx a i) {i q:Nat} (h:RB l inp V i q):i∈idx->(a i).testBit q=true:=by
 induction h with
 | own h1 h2 =>
  intro hi;obtain⟨r,g1,g2,g3⟩:=hc _ hi;rw [h1] at g1;obtain rfl:=cC g1;exact g2 _ h2
 | ask h1 h2 h3 h4 =>
  intro hi;obtain⟨r,g1,g2,g3⟩:=hc _ hi;rw [h1] at g1;obtain rfl:=cC g1;exact (g3 _ h2).1 h3 _ h4
 | ring h1 h2 h3 h4 h5 ih =>
  intro hi;obtain⟨r,g1,g2,g3⟩:=hc _ hi;rw [h1] at g1;obtain rfl:=cC g1;rcases (g3 _ h2).2 (by rintro (h | h); rw [h3] at h; cases h; exact h h4) with h | ⟨h,k⟩
  ·exact h _ h5
  ·exact k _ (ih h)
theorem zC (C:bM l) (hD:Fc l inp V) {j:Nat} (hj:(bS l)[j]? = some true):∃ u:Nat,V j=db u/\u<65536/\(jk (V j)).toNat=u/\∀ q,u.testBit q=true↔RB l inp V j q:=by
 have hl:j<l.length:=by have:=bh hj; unfold bS at this; rwa [oz] at this
 have hg:=cH hl;obtain⟨u,h1,h2,h3⟩:=hD.ring j l[j] hg (by rw [sd hl] at hj; exact cC hj);exact⟨u,h1,h2,by rw [h1,Aq h2]; omega,h3⟩
theorem Dz {n:Nat} (h:n<65536):(jk (db (n:Int))).toNat=n:=by rw [Aq h]; omega
theorem H8 {x:fZ} (h:¬ KK l x):x.t1=false/\(bS l)[x.N.toNat]? = some true:=by
 constructor
 ·cases hc:x.t1 with
  | false=>rfl
  | true=>exact absurd (.inl hc) h
 ·exact DG fun e=>h (.inr e)
theorem BD.set {n0:Nat} {memo m:List (ah×ByteArray)} {list:List ah} {idx:List Nat} {a:Nat->Nat} (h:BD l V inp n0 memo m list idx a) (hl:l.length<=8) {i u:Nat} (hi:i∈idx) (hu:u<65536) (hlow:∀ q,(a i).testBit q=true->u.testBit q=true) (hRB:∀ q,u.testBit q=true->RB l inp V i q) (hF:∀ q,u.testBit q=true->Fb l V inp memo a i q) :
  BD l V inp n0 memo (gT aW (rk l i) (db (u:Int)) m) list idx (fun j=>if j=i then u else a j):=by
 have hmono:∀ j q,(a j).testBit q=true->(if j=i then u else a j).testBit q=true:=by
  intro j q hq;by_cases e:j=i
  ·rw [if_pos e]; rw [e] at hq; exact hlow q hq
  ·rw [if_neg e]; exact hq
 refine⟨h.eq,h.nd,h.ring,h.head,fun j hj=>?_,fun j hj=>?_,fun j=>?_,fun j q hq=>?_,fun j hj q hq=>?_⟩
 ·by_cases e:j=i
  ·subst e;rw [iV,if_pos hi,if_pos rfl]
  ·rw [mR (fun e2=>e (Dd (by omega) (by have:=(h.ring i hi).1; omega) e2)),h.get j hj];simp only [if_neg e]
 ·have:j≠i:=fun e=>hj (e▸hi);show (if j=i then u else a j)=0;rw [if_neg this]; exact h.zero j hj
 ·show (if j=i then u else a j)<65536;split
  ·exact hu
  ·exact h.lt j
 ·by_cases e:j=i
  ·rw [if_pos e] at hq; rw [e]; exact hRB q hq
  ·rw [if_neg e] at hq; exact h.le j q hq
 ·by_cases e:j=i
  ·rw [if_pos e] at hq; rw [e]; exact (hF q hq).mono (lW.refl _) hmono
  ·rw [if_neg e] at hq; exact (h.up j hj q hq).mono (lW.refl _) hmono
section
variable {n0:Nat} {a:Nat->Nat} {i:Nat} {r:aX} {memo0 memo m m0:List (ah×ByteArray)} {idx0 idx:List Nat} {list list0:List ah} {ws:List ByteArray} {u:Nat} (C:bM l) (hD:Fc l inp V) (hi:l[i]? = some r) (hr:r.o=true)
 (h0:BD l V inp n0 memo0 m0 list0 idx0 a) (h1:BD l V inp n0 memo m list idx a) (hiI:i∈idx0) (hlen:ws.length=r.g.length) (hans:∀ (q:Nat) (x:fZ),r.g[q]? = some x->∃ (w:ByteArray),ws[q]? = some w/\xN l V inp memo0 memo idx a x w)
 (hu:∀ q,u.testBit q=true↔r.C.toNat.testBit q=true∨∃ v∈ws,(jk v).toNat.testBit q=true)
include C hD hi h0 h1 hiI hlen hans hu
omit hlen in
theorem NX (q:Nat) (hq:(a i).testBit q=true):u.testBit q=true:=by
 obtain⟨r',g1,g2⟩:=h0.up i hiI q hq;rw [hi] at g1;obtain rfl:=cC g1;rcases g2 with g2 | ⟨x,g2,g3⟩
 ·exact (hu q).2 (.inl g2)
 ·obtain⟨k,O⟩:=nP.1 g2;obtain⟨w,w1,w2⟩:=hans k x O;refine (hu q).2 (.inr ⟨w,aD w1,?_⟩);rcases w2 with⟨w2,rfl⟩|⟨w2,w3⟩
  ·rcases g3 with⟨_,g3⟩|⟨g3,_⟩
   ·exact g3
   ·exact absurd w2 g3
  ·obtain⟨u',d1,d2,d3,d4⟩:=zC C hD (H8 w2).2;rcases g3 with⟨g3,_⟩|⟨_,g3⟩
   ·exact absurd g3 w2
   ·rcases w3 with⟨_,rfl⟩|⟨_,rfl,w5⟩
    ·rw [d3,d4];rcases g3 with⟨_,g3⟩ | g3
     ·exact g3
     ·exact h1.le _ _ g3
    ·rw [Dz (h1.lt _)];rcases g3 with⟨g3,_⟩ | g3
     ·exact absurd w5 g3
     ·exact g3
omit h0 hiI in
theorem Qb (q:Nat) (hq:u.testBit q=true):RB l inp V i q/\Fb l V inp memo a i q:=by
 rcases (hu q).1 hq with g | ⟨w,g1,g2⟩
 ·exact⟨.own hi g,r,hi,.inl g⟩
 ·obtain⟨k,O⟩:=nP.1 g1;have hk2:=bh O;have hx:=cH (l:=r.g) (i:=k) (by omega);obtain⟨w',w1,w2⟩:=hans k _ hx;rw [O] at w1;obtain rfl:=cC w1;have hm:=aD hx;rcases w2 with⟨w2,rfl⟩|⟨w2,w3⟩
  ·exact⟨.ask hi hm w2 g2,r,hi,.inr ⟨_,hm,.inl ⟨w2,g2⟩⟩⟩
  ·obtain⟨u',d1,d2,d3,d4⟩:=zC C hD (H8 w2).2;rcases w3 with⟨w3,rfl⟩|⟨_,rfl,w5⟩
   ·rw [d3,d4] at g2;exact⟨.ring hi hm (H8 w2).1 (H8 w2).2 g2,r,hi,.inr ⟨_,hm,.inr ⟨w2,.inl ⟨w3,g2⟩⟩⟩⟩
   ·rw [Dz (h1.lt _)] at g2;exact⟨.ring hi hm (H8 w2).1 (H8 w2).2 (h1.le _ _ g2),r,hi,.inr ⟨_,hm,.inr ⟨w2,.inr g2⟩⟩⟩
omit h0 hiI hlen in
theorem Qa (hau:a i=u):ZY l V inp idx a i:=by
 refine⟨r,hi,fun q hq=>?_,fun x hx=>?_⟩
 ·rw [hau]; exact (hu q).2 (.inl hq)
 ·obtain⟨k,O⟩:=nP.1 hx;obtain⟨w,w1,w2⟩:=hans k x O;have hw:∀ q,(jk w).toNat.testBit q=true->(a i).testBit q=true:=fun q hq=>by
   rw [hau]; exact (hu q).2 (.inr ⟨w,aD w1,hq⟩)
  rcases w2 with⟨w2,rfl⟩|⟨w2,w3⟩
  ·exact⟨fun _ q hq=>hw q hq,fun h=>absurd w2 h⟩
  ·obtain⟨u',d1,d2,d3,d4⟩:=zC C hD (H8 w2).2;refine⟨fun h=>absurd h w2,fun _=>?_⟩;rcases w3 with⟨_,rfl⟩|⟨w3,rfl,_⟩
   ·exact .inl fun q hq=>hw q (by rw [d3,d4]; exact hq)
   ·exact .inr ⟨w3,fun q hq=>hw q (by rw [Dz (h1.lt _)]; exact hq)⟩
end
end
end
section
open Go.Lib hiding intOf
section
variable {l:List aX} {V:Nat->ByteArray} {b:ao} {inp:ah->ByteArray} {vrec:az->ah->Option (ByteArray×az)}
def mu (l:List aX) (idx:List Nat) (a:Nat->Nat):Nat:=idx.length+A4 a l.length
def Jm (l:List aX) (V:Nat->ByteArray) (b:ao) (inp:ah->ByteArray) (n0:Nat) (memo1:List (ah×ByteArray)) (idx1:List Nat) (a1:Nat->Nat) (k:Nat) :
  (List (ah×ByteArray))×(List ah)×Bool×Int×(List aX)×Int×(List bc)×(List ay)×(List (ah×ByteArray))×(List (ah×(List ah)))->Prop
 | (m,list,ch,p,rules,rev,inps,recs,memo,seen) =>
  ∃ (idx:List Nat) (a:Nat->Nat),p=(k:Int)/\k<=idx.length/\BD l V inp n0 memo m list idx a/\uz l V b (az.mk rules (ao.mk rev inps recs) memo seen)/\lW memo1 memo /\
   ((ch=false/\idx=idx1/\a=a1/\∀ (q i:Nat),q<k->idx[q]? = some i->ZY l V inp idx a i)∨(ch=true/\mu l idx1 a1<mu l idx a))
def Jo (l:List aX) (V:Nat->ByteArray) (b:ao) (inp:ah->ByteArray) (n0:Nat) (memo1:List (ah×ByteArray)) (idx1:List Nat) (a1:Nat->Nat) :
  (List (ah×ByteArray))×(List ah)×Bool×(List aX)×Int×(List bc)×(List ay)×(List (ah×ByteArray))×(List (ah×(List ah)))->Prop
 | (m,list,ch,rules,rev,inps,recs,memo,seen) =>
  ∃ (idx:List Nat) (a:Nat->Nat),BD l V inp n0 memo m list idx a/\uz l V b (az.mk rules (ao.mk rev inps recs) memo seen)/\lW memo1 memo /\
   ((ch=false/\∀ i∈idx,ZY l V inp idx a i)∨(ch=true/\mu l idx1 a1<mu l idx a))
section
variable {n0:Nat} {memo1:List (ah×ByteArray)} {idx1:List Nat} {a1:Nat->Nat} (C:bM l) (hD:Fc l inp V) (hv:Px l V b inp (uU (bS l) n0) vrec)
include C hD hv
theorem P7 {k:Nat} (O:k<=l.length):∀ s,Jm l V b inp n0 memo1 idx1 a1 k s->Ok (fH vrec s.1 s.2.1 s.2.2.1 s.2.2.2.1 s.2.2.2.2.1 s.2.2.2.2.2.1 s.2.2.2.2.2.2.1 s.2.2.2.2.2.2.2.1 s.2.2.2.2.2.2.2.2.1 s.2.2.2.2.2.2.2.2.2) fun y=>match y with
   | .go s'=>k<l.length/\Jm l V b inp n0 memo1 idx1 a1 (k+1) s'
   | .out y=>Jo l V b inp n0 memo1 idx1 a1 y:=by
 rintro⟨m,list,ch,p,rules,rev,inps,recs,memo,seen⟩ ⟨idx,a,rfl,hkl,h1,h2,h3,h4⟩;dsimp only;have hl8:=C.high;obtain⟨len1,len2⟩:=h1.len;unfold fH;refine ar (fun hb=>?_) (fun hb=>?_)
 ·have hlt:k<idx.length:=by have:=of_decide_eq_true hb; omega
  have hp:=cH hlt;have hiI:=aD hp;generalize idx[k]=i at hp hiI;obtain⟨hil,hir,hio⟩:=h1.ring i hiI;have hi:=cH hil;generalize l[i]=r at hi;have hr:r.o=true:=by rw [o7 hi] at hir; exact cC hir
  obtain⟨t,ht,_⟩:=xD C hi (ws:=[]) (by simp);have hget:bO list ((k:Nat):Int)=some (rk l i):=by rw [bn,h1.eq,sf,hp]; rfl
  have hru:rules=l:=h2.rules;refine aG hget (aG (by rw [hru]; exact ht) ?_);unfold iN;refine MU C hv hi hr hp h1 h2 ht ?_;rintro⟨m',list',ch',rules',rev',inps',recs',memo',seen',d',v',ak',at'⟩ ⟨idx',ws,g1,g2,g3,g4,g5,g6,g7,g8⟩;dsimp only;obtain⟨u,hu1,hu2,hu3⟩:=Lm C hi hr ws;rw [hu1] at g8;subst g8;have hp':idx'[k]? = some i:=by
   obtain⟨z,rfl⟩:=g4;rw [se hlt]; exact hp
  have hiI':i∈idx':=g4.subset hiI;have hget':bO list' ((k:Nat):Int)=some (rk l i):=by rw [bn,g1.eq,sf,hp']; rfl
  have hm:=g1.get i hil;rw [if_pos hiI'] at hm;have hlen':=g4.length_le;have hk1:k+1<=idx'.length:=bh hp';have hwr:IntKind.i64.wrap ((k:Int)+1)=((k+1:Nat):Int):=cJ (by omega);unfold gm;refine aG hget' ?_;rw [hm];simp only [Bf,ad];by_cases e:a i=u
  ·rw [e,show ((db (u:Int)).toList==(db (u:Int)).toList)=true by simp];simp only [dJ,cond_false];unfold eT;rw [hwr];refine ae ⟨by omega,idx',a,rfl,hk1,g1,g2,h3.trans g3,?_⟩;rcases g5 with⟨e1,e2⟩|⟨e1,e2⟩
   ·subst e1 e2;rcases h4 with⟨q1,q2,q3,q4⟩|⟨q1,q2⟩
    ·refine .inl ⟨q1,q2,q3,fun q j hq hj=>?_⟩;rcases gD q k with hq2 | hq2
     ·exact q4 q j hq2 hj
     ·obtain rfl:q=k:=by omega
      rw [hp'] at hj;obtain rfl:=cC hj;exact Qa C hD hi g1 g7 hu3 e
    ·exact .inr ⟨q1,q2⟩
   ·refine .inr ⟨e1,?_⟩;unfold mu at h4 ⊢;rcases h4 with⟨q1,q2,q3,q4⟩|⟨q1,q2⟩
    ·rw [<- q2,<- q3]; omega
    ·omega
  ·have hne:((db ((a i:Nat):Int)).toList==(db (u:Int)).toList)=false:=by
    rw [beq_eq_false_iff_ne];exact fun h=>e (Ex (g1.lt i) hu2 (toList_inj h))
   rw [hne];simp only [fv,cond_true];refine aG hget' ?_;unfold eT;rw [hwr];have hlow:=NX C hD hi h1 g1 hiI g7 hu3;have hup:=Qb C hD hi g1 g6 g7 hu3;have si:=g1.set hl8 hiI' hu2 hlow (fun q hq=>(hup q hq).1) (fun q hq=>(hup q hq).2);refine ae ⟨by omega,idx',_,rfl,hk1,si,g2,h3.trans g3,.inr ⟨rfl,?_⟩⟩;have hle:a i<=u:=Np hlow;have hs:A4 a l.length<A4 (fun j=>if j=i then u else a j) l.length:=by
    refine Jx (i:=i) (fun j=>?_) ?_ _ hil
    ·show a j<=if j=i then u else a j;split
     ·rename_i hj; rw [hj]; exact hle
     ·exact cm _
    ·show a i<if i=i then u else a i;rw [if_pos rfl]; omega
   unfold mu at h4 ⊢;rcases h4 with⟨q1,q2,q3,q4⟩|⟨q1,q2⟩
   ·rw [<- q2,<- q3]; omega
   ·omega
 ·have hge:¬ k<idx.length:=by have:=of_decide_eq_false hb; omega
  refine ae ⟨idx,a,h1,h2,h3,?_⟩;rcases h4 with⟨q1,q2,q3,q4⟩|⟨q1,q2⟩
  ·refine .inl ⟨q1,fun i hi=>?_⟩;obtain⟨q,hq⟩:=nP.1 hi;exact q4 q i (by have:=bh hq; omega) hq
  ·exact .inr ⟨q1,q2⟩
def Io (l:List aX) (V:Nat->ByteArray) (b:ao) (inp:ah->ByteArray) (n0:Nat) (memo1:List (ah×ByteArray)) (k:Nat) :
  (List (ah×ByteArray))×(List ah)×Bool×(List aX)×Int×(List bc)×(List ay)×(List (ah×ByteArray))×(List (ah×(List ah)))->Prop
 | (m,list,ch,rules,rev,inps,recs,memo,seen) =>
  ∃ (idx:List Nat) (a:Nat->Nat),BD l V inp n0 memo m list idx a/\uz l V b (az.mk rules (ao.mk rev inps recs) memo seen)/\lW memo1 memo /\
   ((ch=false/\∀ i∈idx,ZY l V inp idx a i)∨(ch=true/\k<=mu l idx a))
def Fo (l:List aX) (V:Nat->ByteArray) (b:ao) (inp:ah->ByteArray) (n0:Nat) (memo1:List (ah×ByteArray)) :
  (List (ah×ByteArray))×(List ah)×(List aX)×Int×(List bc)×(List ay)×(List (ah×ByteArray))×(List (ah×(List ah)))->Prop
 | (m,list,rules,rev,inps,recs,memo,seen) =>
  ∃ (idx:List Nat) (a:Nat->Nat),BD l V inp n0 memo m list idx a/\uz l V b (az.mk rules (ao.mk rev inps recs) memo seen)/\lW memo1 memo/\∀ i∈idx,ZY l V inp idx a i
omit hD hv in
theorem L0 {memo m:List (ah×ByteArray)} {list:List ah} {idx:List Nat} {a:Nat->Nat} (h:BD l V inp n0 memo m list idx a):mu l idx a<=600000:=by
 have:=Du h.lt l.length;have:=h.len.2;have:=C.high;unfold mu;omega
theorem P8 {k:Nat}:∀ s,Io l V b inp n0 memo1 k s->Ok (fJ vrec s.1 s.2.1 s.2.2.1 s.2.2.2.1 s.2.2.2.2.1 s.2.2.2.2.2.1 s.2.2.2.2.2.2.1 s.2.2.2.2.2.2.2.1 s.2.2.2.2.2.2.2.2) fun y=>match y with
   | .go s'=>k<600001/\Io l V b inp n0 memo1 (k+1) s'
   | .out y=>Fo l V b inp n0 memo1 y:=by
 rintro⟨m,list,ch,rules,rev,inps,recs,memo,seen⟩ ⟨idx,a,h1,h2,h3,h4⟩;dsimp only;unfold fJ;refine ar (fun hb=>?_) (fun hb=>?_)
 ·subst hb;have h5:k<=mu l idx a:=by
   rcases h4 with⟨h,_⟩|⟨_,h⟩
   ·cases h
   ·exact h
  have hbd:=L0 C h1;refine bV (Jm l V b inp n0 memo idx a) (Jo l V b inp n0 memo idx a) l.length ⟨idx,a,rfl,bY _,h1,h2,lW.refl _,.inl ⟨rfl,rfl,rfl,fun q i hq=>absurd hq (by omega)⟩⟩
   (fun k s O hI=>(P7 C hD hv O s hI).mono fun y hy=>by cases y <;> exact hy) ?_
  rintro⟨m',list',ch',rules',rev',inps',recs',memo',seen'⟩ ⟨idx',a',g1,g2,g3,g4⟩;refine ae ⟨by omega,idx',a',g1,g2,h3.trans g3,?_⟩;rcases g4 with⟨q1,q2⟩|⟨q1,q2⟩
  ·exact .inl ⟨q1,q2⟩
  ·exact .inr ⟨q1,by omega⟩
 ·subst hb;refine ae ⟨idx,a,h1,h2,h3,?_⟩;rcases h4 with⟨_,h⟩|⟨h,_⟩
  ·exact h
  ·cases h
omit hv in
theorem Ll {m list memo idx a} (h1:BD l V inp n0 memo m list idx a) (hc:∀ i∈idx,ZY l V inp idx a i) {i:Nat} (hi:i∈idx):db ((a i:Nat):Int)=V i:=by
 obtain⟨u,d1,d2,d3,d4⟩:=zC C hD (h1.ring i hi).2.1;rw [d1];congr 2;apply Nat.eq_of_testBit_eq;intro q;rw [Bool.eq_iff_iff,d4];exact⟨h1.le i q,fun h=>H0 hc h hi⟩
theorem ML {s:az} (hs:uz l V b s) (hn:n0<l.length) (hr0:(bS l)[n0]? = some true) :
  Ok (jx vrec s (rk l n0)) fun s'=>uz l V b s'/\lW s.e s'.e/\dx aW (rk l n0) s'.e=some (V n0):=by
 have hl8:=C.high;have hL:ly (rk l n0)=some ⟨#[48]⟩:=by
  unfold ly;rcases sQ (l:=l) (n:=n0) with⟨_,h⟩|⟨h,_⟩
  ·exact absurd hr0 h
  ·rw [h]; rfl
 unfold jx;refine aG hL ?_;unfold iO;have U:BD l V inp n0 s.e (gT aW (rk l n0) ⟨#[48]⟩ []) [rk l n0] [n0] (fun _=>0):=by
  refine⟨rfl,by simp,fun i hi=>?_,dF.2 rfl,fun i hi=>?_,fun _ _=>rfl,fun _=>by simp,fun i q hq=>by simp at hq,fun i _ q hq=>by simp at hq⟩
  ·rw [dF.1 hi]; exact⟨hn,hr0,cm _⟩
  ·by_cases e:i=n0
   ·subst e;rw [iV,if_pos (dF.2 rfl),Fz]
   ·rw [mR (fun e2=>e (Dd (by omega) (by omega) e2)),if_neg (by simpa using e)]; rfl
 refine bV (Io l V b inp n0 s.e) (Fo l V b inp n0 s.e) 600001 ⟨[n0],fun _=>0,U,hs,lW.refl _,.inr ⟨rfl,bY _⟩⟩
  (fun k s O hI=>(P8 C hD hv s hI).mono fun y hy=>by cases y <;> exact hy) ?_
 rintro⟨m,list,rules,rev,inps,recs,memo,seen⟩ ⟨idx,a,h1,h2,h3,h4⟩;obtain⟨len1,len2⟩:=h1.len;dsimp only;unfold gl;refine bV (fun (k:Nat) (st:Int×List (ah×ByteArray))=>st.1=k/\k<=idx.length/\uz l V b (az.mk rules (ao.mk rev inps recs) st.2 seen)/\lW s.e st.2/\∀ (q i:Nat),q<k->idx[q]? = some i->dx aW (rk l i) st.2=some (V i))
  (fun memo'=>uz l V b (az.mk rules (ao.mk rev inps recs) memo' seen)/\lW s.e memo'/\dx aW (rk l n0) memo'=some (V n0)) idx.length ⟨rfl,bY _,h2,h3,fun q i hq=>absurd hq (by omega)⟩ ?_ ?_
 ·rintro k ⟨p,memo'⟩ O ⟨rfl,_,g1,g2,g3⟩;dsimp only;unfold jF;refine ar (fun hb=>?_) (fun hb=>?_)
  ·have hlt:k<idx.length:=by have:=of_decide_eq_true hb; omega
   have hp:=cH hlt;have hiI:=aD hp;generalize idx[k]=i at hp hiI;obtain⟨hil,_⟩:=h1.ring i hiI;have hget:bO list ((k:Nat):Int)=some (rk l i):=by rw [bn,h1.eq,sf,hp]; rfl
   refine aG hget ?_;have hm:=h1.get i hil;rw [if_pos hiI,Ll C hD h1 h4 hiI] at hm;rw [hm];simp only [Bf,ad];obtain⟨p1,p2⟩:=g1.put hil hl8;refine ae ⟨hlt,cJ (by omega),hlt,p1,g2.trans p2,fun q j hq hj=>?_⟩;rcases gD q k with hq2 | hq2
   ·exact p2 _ _ (g3 q j hq2 hj)
   ·obtain rfl:q=k:=by omega
    rw [hp] at hj;obtain rfl:=cC hj;exact iV _ _ _
  ·have hge:¬ k<idx.length:=by have:=of_decide_eq_false hb; omega
   obtain⟨q,hq⟩:=nP.1 h1.head;exact ae ⟨g1,g2,g3 q n0 (by have:=bh hq; omega) hq⟩
 ·rintro memo' ⟨g1,g2,g3⟩;exact ae ⟨g1,g2,g3⟩
end
end
end
section
open Go.Lib hiding intOf
variable {inp:ah->ByteArray} {s:az} {vrec:az->ah->Option (ByteArray×az)}
section
variable {l:List aX} {V:Nat->ByteArray} {b:ao}
noncomputable abbrev uf (b:ao) (k:ah):ByteArray:=(H3 b k).u
theorem Px.le {ρ ρ':Nat} (h:Px l V b inp ρ vrec) (hl:ρ'<=ρ):Px l V b inp ρ' vrec :=
 ⟨fun s n hs hn hr=>h.rule s n hs hn (by omega),h.cell⟩
theorem Ei {r:aX} {k:Nat} {x:fZ} (hx:r.g[k]? = some x):sF l inp V r (k+1)=sF l inp V r k++[vf l inp V x (sF l inp V r k)]:=by
 show (match r.g[k]? with | none=>_ | some x=>_)=_;rw [hx]
theorem Ca {r:aX}:∀ {k:Nat},k<=r.g.length->(sF l inp V r k).length=k
 | 0,_=>rfl
 | k+1,h=>by rw [Ei (cH (show k<r.g.length by omega)),bk,Ca (by omega)]; rfl
theorem Iw (C:bM l) (hD:Fc l (uf b) V) (hb:Rm b.i.length) {f:Nat} (hv:Px l V b (uf b) f vrec) {n:Nat} (hs:uz l V b s) (hn:n<l.length) (hf:uU (bS l) n<=f) :
  Ok (fg vrec s (rk l n)) fun y=>y.1=V n/\uz l V b y.2/\lW s.e y.2.e:=by
 have hl8:=C.high;unfold fg;refine aG tF ?_;simp only [cond_false,ad];refine ar (fun hm=>?_) (fun hm=>?_)
 ·obtain⟨v,hv⟩:=Option.isSome_iff_exists.1 hm;rw [hv];exact ae ⟨hs.memo n hn v hv,hs,lW.refl _⟩
 ·refine aG (im _) ?_;rw [Jp];by_cases hr:(bS l)[n]? = some true
  ·rw [decide_eq_true hr];simp only [cond_true];refine ai (ML C hD (hv.le hf) hs hn hr) fun s' ⟨h1,h2,h3⟩=>?_;rw [h3];exact ae ⟨rfl,h1,h2⟩
  ·rw [decide_eq_false hr];simp only [cond_false];have hi:=cH hn;generalize l[n]=r at hi;have hrr:r.o=false:=by
    rw [o7 hi] at hr;cases h:r.o with
    | false=>rfl
    | true=>rw [h] at hr; exact absurd rfl hr
   have h3l:=(C.each n r hi).asks;refine bV (fun (k:Nat) (st:(List ByteArray)×(List aX)×Int×(List bc)×(List ay)×(List (ah×ByteArray))×(List (ah×(List ah))))=>k<=r.g.length/\st.1=sF l (uf b) V r k/\uz l V b (az.mk st.2.1 (ao.mk st.2.2.1 st.2.2.2.1 st.2.2.2.2.1) st.2.2.2.2.2.1 st.2.2.2.2.2.2)/\lW s.e st.2.2.2.2.2.1)
    (fun y=>y.1=V n/\uz l V b y.2/\lW s.e y.2.e) r.g.length ⟨bY _,rfl,hs,lW.refl _⟩ ?_ (fun y hy=>ae hy)
   rintro k ⟨ws,rules,rev,inps,recs,memo,seen⟩ O ⟨_,e,g1,g2⟩;dsimp only at e g1 g2 ⊢;subst e;have hru:rules=l:=g1.rules;unfold jD;rw [hru];rcases gD k r.g.length with hlt | hge
   ·have hx:=cH hlt;generalize r.g[k]=x at hx;have hlen:=Ca (l:=l) (V:=V) (inp:=uf b) (r:=r) O;refine aG (Dx C hi (x:=x) (by rw [hlen]; exact hx)) ?_;unfold gk;simp only [cond_false];obtain⟨_,hg⟩:=rF C hi hx (sF l (uf b) V r k);have fin:∀ {w:ByteArray} {rules rev inps recs memo seen},w=vf l (uf b) V x (sF l (uf b) V r k)->uz l V b (az.mk rules (ao.mk rev inps recs) memo seen)->lW s.e memo->Ok (gd (ce ((sF l (uf b) V r k).length+[w].length)) <| some (Fl.go (R:=ByteArray×az) (sF l (uf b) V r k++[w],rules,rev,inps,recs,memo,seen))) fun y=>match y with
      | .go st=>k<r.g.length/\(k+1<=r.g.length/\st.1=sF l (uf b) V r (k+1)/\uz l V b (az.mk st.2.1 (ao.mk st.2.2.1 st.2.2.2.1 st.2.2.2.2.1) st.2.2.2.2.2.1 st.2.2.2.2.2.2)/\lW s.e st.2.2.2.2.2.1)
      | .out y=>y.1=V n/\uz l V b y.2/\lW s.e y.2.e:=by
     intro w rules rev inps recs memo seen hw q1 q2;exact bC (dk (by rw [hlen]; simp; omega)) (ae ⟨hlt,hlt,by rw [Ei hx,hw],q1,q2⟩)
    have hK:ah.mk (uD l x (sF l (uf b) V r k)).k (uD l x (sF l (uf b) V r k)).t=uD l x (sF l (uf b) V r k):=rfl;rw [hK];rw [hru] at g1;rcases hg with⟨hc,c,hc4,e3,e4⟩|⟨hc,j,hj,e3,e4⟩
    ·have U:vf l (uf b) V x (sF l (uf b) V r k)=uf b (ia c):=by unfold vf; rw [if_pos hc,e4]
     rw [e4];refine ai (hv.cell _ c g1 hc4) fun y hy=>?_;obtain⟨y1,y2⟩:=y;obtain⟨f1,f2⟩:=hy;simp only at f1 f2;subst f1 f2;exact (fin U.symm g1 g2).mono fun y hy=>by cases y <;> exact hy
    ·have hll:=CV hn;have U:vf l (uf b) V x (sF l (uf b) V r k)=V j:=by unfold vf; rw [if_neg (by rw [hc]; simp),e3]; rfl
     rw [e4];refine ai (hv.rule _ j g1 (by omega) (by have:=EL hr hj; omega)) fun y hy=>?_;obtain⟨f1,f2,f3⟩:=hy;exact (fin (by rw [f1,U]) f2 (g2.trans f3)).mono fun y hy=>by cases y <;> exact hy
   ·obtain rfl:k=r.g.length:=by omega
    have hlen:=Ca (l:=l) (V:=V) (inp:=uf b) (r:=r) (cm r.g.length);refine aG (A5 C hi (by rw [hlen]; exact cm _)) ?_;have hval:=hD.plain n r hi hrr;unfold gk;simp only [cond_true];rw [Ba (by rw [hlen]; exact cm _),<- hval];rw [hru] at g1;obtain⟨p1,p2⟩:=g1.put hn hl8;exact ae ⟨rfl,p1,g2.trans p2⟩
theorem DA (hb:Rm b.i.length) {c:Nat} (hs:uz l V b s):Ok (fg vrec s (ia c)) fun y=>y.1=uf b (ia c)/\y.2=s:=by
 unfold fg;refine aG qt ?_;simp only [cond_true];refine aG (by rw [hs.base]; exact I7 hb _) (ae ⟨rfl,rfl⟩)
theorem Hh (C:bM l) (hD:Fc l (uf b) V) (hb:Rm b.i.length):∀ f,Px l V b (uf b) f (Oi (f+1))
 | 0=>⟨fun s n _ _ h=>absurd h (by omega),fun s c hs _=>DA hb hs⟩
 | f+1=>⟨fun s n hs hn h=>Iw C hD hb (Hh C hD hb f) hs hn (by omega),fun s c hs _=>DA hb hs⟩
theorem Pn (C:bM l) (hD:Fc l (uf b) V) (hb:Rm b.i.length) (hs:uz l V b s) {k:ah} (O:kI l k):Ok (vv s k) fun y=>uz l V b y.2/\(∀ n,n<l.length->k=rk l n->y.1=V n):=by
 have h:=Hh C hD hb 39;have hl8:=C.high;rcases O with⟨c,hc,rfl⟩|⟨n,hn,rfl⟩
 ·exact (h.cell s c hs hc).mono fun y hy=>⟨by rw [hy.2]; exact hs,fun n _ e=>absurd e IT⟩
 ·refine (h.rule s n hs hn ?_).mono fun y hy=>⟨hy.2.1,fun m hm e=>?_⟩
  ·have:=Mv (rs:=bS l) n; omega
  ·rw [Dd (by omega) (by omega) e] at hy;exact hy.1
end
end
section
open Go.Lib hiding intOf
variable {b:ao} {l:List ay} {x:ay}
theorem CX {r:ay}:x∈sm l r↔x=r∨(x∈l/\x.d≠r.d):=by
 unfold sm;rw [dw,dX,oB,oB];simp only [decide_eq_true_eq];constructor
 ·rintro (⟨h,h1⟩ | h | ⟨h,h1⟩)
  ·exact .inr ⟨h,xq h1⟩
  ·exact .inl h
  ·exact .inr ⟨h,fun e=>by rw [e,AN] at h1; omega⟩
 ·rintro (h | ⟨h,h1⟩)
  ·exact .inr (.inl h)
  ·rcases zK x.d r.d with h2 | h2 | h2
   ·exact .inl ⟨h,h2⟩
   ·exact absurd h2 h1
   ·exact .inr (.inr ⟨h,rM.2 h2⟩)
theorem Nj (h:IH l) {y:ay} (hx:x∈l) (hy:y∈l) (e:x.d=y.d):x=y:=by
 induction l with
 | nil=>cases hx
 | cons z m ih =>
  have h':=vT.1 h;rcases dX.1 hx with e1 | h1
  ·rcases dX.1 hy with e2 | h2
   ·rw [e1,e2]
   ·subst e1; exact absurd e (xq (h'.1 y h2))
  ·rcases dX.1 hy with e2 | h2
   ·subst e2; exact absurd e.symm (xq (h'.1 x h1))
   ·exact ih h'.2 h1 h2
theorem Lo (h:IH l) (hx:x∈l):cR l x.d=(x,true):=by
 unfold cR;cases hf:l.find? (fun r=>jK r.d x.d) with
 | none =>
  have:=Hy.1 hf x hx;simp [AO] at this
 | some y =>
  have h1:=List.find?_some hf;have h2:=IF hf;rw [Nj h h2 hx (oa.1 h1)]
theorem CK (h:IH l) (hx:x∈l) {k:ah} (e:x.d=k):cR l k=(x,true):=by subst e; exact Lo h hx
theorem Eu (h:IH l) (r:ay) (k:ah):cR (sm l r) k=if k=r.d then (r,true) else cR l k:=by
 have hp:=G1 h r;by_cases e:k=r.d
 ·rw [if_pos e];exact CK hp (CX.2 (.inl rfl)) e.symm
 ·rw [if_neg e];cases hf:(cR l k).2 with
  | true =>
   obtain⟨h1,h2⟩:=mg hf;rw [CK hp (CX.2 (.inr ⟨h1,by rw [h2]; exact e⟩)) h2];exact Prod.ext rfl hf.symm
  | false =>
   obtain⟨h1,h2⟩:=vr hf;cases hf2:(cR (sm l r) k).2 with
   | true =>
    obtain⟨h3,h4⟩:=mg hf2;rcases CX.1 h3 with h5 | ⟨h5,_⟩
    ·exact absurd (h4.symm.trans (congrArg ay.d h5)) e
    ·exact absurd h4 (h2 _ h5)
   | false=>rw [(vr hf2).1,h1]
theorem Ie (h:KO l):tx l=some l:=by
 have hl:=h.1;unfold Rm at hl;unfold tx rn;refine gG (ej (xs:=l) (fun k=>(l.take k,(k:Int))) rfl (r:=l) (fun k x hx=>?_) ?_) rfl
 ·have hlt:=bh hx;unfold og;dsimp only;rw [dlt hlt,cond_true,bn,hx,ad,s8 (h.2 x (aD hx)),ad,dk (by rw [eS]; simp; omega),cJ (by omega),bX hx];rfl
 ·unfold og;dsimp only;rw [bN,fW]; rfl
theorem yx (h:KO b.s) (hi:Rm b.i.length):gw b=some b:=by
 unfold Rm at hi;unfold gw;rw [dk (by simp; omega),Ie h]; rfl
def lx (g:List ah) (d:Bool) (rev:Int) (r:ay):ay:=if (g.any fun x=>jK r.d x)=true then (if d=true then ⟨r.d,r.u,r.v,r.x,r.c,r.h,true⟩ else ⟨r.d,r.u,r.v,r.x,rev,r.h,r.w⟩) else r
theorem xv (g:List ah) (d:Bool) (rev:Int) (r:ay):(lx g d rev r).d=r.d:=by unfold lx; split <;> (try split) <;> rfl
theorem B0 (h:KO b.s) (hi:Rm b.i.length) {g:List ah} (hg:Rm g.length) (d:Bool):nc b g d=some ⟨b.r,b.i,b.s.map (lx g d b.r)⟩:=by
 have hl:=h.1;unfold Rm at hl;unfold nc ru;rw [yx h hi,ad];refine gG (ej (xs:=b.s) (fun k=>((k:Int),(b.s.take k).map (lx g d b.r)++b.s.drop k)) rfl (r:=b.s.map (lx g d b.r)) (fun k x hx=>?_) ?_) rfl
 ·have hlt:=bh hx;have hlen:((b.s.take k).map (lx g d b.r)).length=k:=by rw [oz,eS]; omega
  have hdrop:b.s.drop k=x::b.s.drop (k+1):=by
   rw [Hw hlt];rw [cH hlt] at hx;rw [cC hx]
  have hget:bO ((b.s.take k).map (lx g d b.r)++b.s.drop k) (k:Int)=some x:=by
   rw [bn,ua (by omega),hlen,hdrop,xh]; rfl
  have si:∀ y,((b.s.take k).map (lx g d b.r)++b.s.drop k).set (Int.toNat (k:Int)) y=(b.s.take k).map (lx g d b.r)++y::b.s.drop (k+1):=fun y=>by
   rw [hdrop,sC,List.set_append_right _ _ (by omega),hlen,xh]; rfl
  have htake:∀ y,lx g d b.r x=y->(b.s.take (k+1)).map (lx g d b.r)++b.s.drop (k+1)=(b.s.take k).map (lx g d b.r)++y::b.s.drop (k+1):=fun y hy=>by
   rw [bX hx,Az,fq];simp [hy]
  unfold ov;dsimp only;rw [dlt hlt,cond_true,hget,ad,AX hg,ad];unfold mw;have hw:=cJ (k:=k) (by omega);cases ha:g.any fun y=>jK x.d y with
  | false =>
   rw [fv,cond_true,hw,htake x (by unfold lx; rw [ha]; rfl),hdrop]
  | true =>
   rw [dJ,cond_false];cases d with
   | true=>rw [cond_true,ad,si,hw,htake ⟨x.d,x.u,x.v,x.x,x.c,x.h,true⟩ (by unfold lx; rw [ha]; rfl)]
   | false=>rw [cond_false,ad,si,hw,htake ⟨x.d,x.u,x.v,x.x,b.r,x.h,x.w⟩ (by unfold lx; rw [ha]; rfl)]
 ·unfold ov;dsimp only;rw [bN,fW,Hx,Ax]; rfl
theorem GW (h:IH l) (g:List ah) (d:Bool) (rev:Int):IH (l.map (lx g d rev)):=by
 unfold IH;rw [List.pairwise_map];exact h.imp fun {a b} hab=>by rw [xv,xv]; exact hab
theorem CJ (h:IH l) (g:List ah) (d:Bool) (rev:Int) (k:ah):cR (l.map (lx g d rev)) k=if (cR l k).2=true then (lx g d rev (cR l k).1,true) else (T3,false):=by
 have hp:=GW h g d rev;cases hf:(cR l k).2 with
 | true =>
  obtain⟨h1,h2⟩:=mg hf;rw [if_pos rfl];exact CK hp (F8 h1) ((xv _ _ _ _).trans h2)
 | false =>
  obtain⟨h1,h2⟩:=vr hf;rw [if_neg (by simp)];cases hf2:(cR (l.map (lx g d rev)) k).2 with
  | true =>
   obtain⟨h3,h4⟩:=mg hf2;obtain⟨x,hx,e⟩:=kC.1 h3;exact absurd (by rw [<- h4,<- e,xv]) (h2 x hx)
  | false=>exact (vr hf2).1
structure uB (l:List aX) (rev:Int) (r:ay):Prop where
 key:∃ n,n<l.length/\r.d=rk l n
 value:r.u.size<=1000
 reads:r.v.length<=3
 good:∀ k∈r.v,kI l k
 low:0<=r.x
 mid:r.x<=r.c
 high:r.c<=rev
 cost:1<=r.h/\r.h<=30000
 dirty:r.w=true->rI r.d=true
structure yo (rev:Int) (x:bc):Prop where
 key:∃ c,c<10/\x.d=ia c
 value:x.u.size<=8
 low:0<=x.x
 high:x.x<=rev
structure lq (l:List aX) (b:ao):Prop where
 rev:0<=b.r/\b.r<=1000000
 ins:∀ x∈b.i,yo b.r x
 insA:b.i.Pairwise fun x y=>dC x.d y.d<0
 recs:∀ r∈b.s,uB l b.r r
 recsA:IH b.s
theorem AP {α:Type} {xs:List α} {f:α->ah} (h:xs.Pairwise fun a b=>dC (f a) (f b)<0):(xs.map f).Nodup:=by
 unfold List.Nodup;rw [List.pairwise_map];exact h.imp fun {a b} hab=>xq hab
theorem lq.nrec {l:List aX} (h:lq l b):b.s.length<=l.length:=by
 have h1:=qE (AP (f:=ay.d) h.recsA) (m:=(List.range l.length).map (rk l)) fun k O=>by
  obtain⟨r,hr,rfl⟩:=kC.1 O;obtain⟨n,hn,e⟩:=(h.recs r hr).key;exact kC.2 ⟨n,vS.2 hn,e.symm⟩
 simpa using h1
theorem lq.nin {l:List aX} (h:lq l b):b.i.length<=10:=by
 have h1:=qE (AP (f:=bc.d) h.insA) (m:=(List.range 10).map ia) fun k O=>by
  obtain⟨r,hr,rfl⟩:=kC.1 O;obtain⟨n,hn,e⟩:=(h.ins r hr).key;exact kC.2 ⟨n,vS.2 hn,e.symm⟩
 simpa using h1
theorem lq.rm {l:List aX} (h:lq l b) (hl:l.length<=8):KO b.s/\Rm b.i.length/\JU b.s:=by
 have h1:=h.nrec;have h2:=h.nin;refine⟨⟨by unfold Rm; omega,fun r hr=>by have:=(h.recs r hr).reads; unfold Rm; omega⟩,by unfold Rm; omega,h.recsA,by omega,fun r hr=>by have:=(h.recs r hr).reads; omega⟩
end
section
open Go.Lib hiding intOf
variable {k:ah} {r:ay}
def Bn (p:Nat->Bool):Nat->Nat
 | 0=>0
 | n+1=>Bn p n+cond (p n) 1 0
theorem Ct {p q:Nat->Bool} (h:∀ n,p n=true->q n=true):∀ N,Bn p N<=Bn q N
 | 0=>cm _
 | n+1=>by
  have:=Ct h n;show Bn p n+cond (p n) 1 0<=Bn q n+cond (q n) 1 0;cases hp:p n with
  | false=>cases q n <;> simp <;> omega
  | true=>rw [h n hp]; simp; omega
theorem Fj {p q:Nat->Bool} (h:∀ n,p n=true->q n=true) {i:Nat} (h1:p i=false) (h2:q i=true):∀ N,i<N->Bn p N<Bn q N
 | 0,h0=>absurd h0 (by omega)
 | n+1,h0=>by
  have h3:=Ct h n;show Bn p n+cond (p n) 1 0<Bn q n+cond (q n) 1 0;rcases gD i n with h4 | h4
  ·have:=Fj h h1 h2 n h4;cases hp:p n with
   | false=>cases q n <;> simp <;> omega
   | true=>rw [h n hp]; simp; omega
  ·obtain rfl:i=n:=by omega
   rw [h1,h2]; simp; omega
theorem xn (p:Nat->Bool):∀ N,Bn p N<=N
 | 0=>cm _
 | n+1=>by
  have:=xn p n;show Bn p n+cond (p n) 1 0<=n+1;cases p n <;> simp <;> omega
noncomputable def iR (b:ao) (k:ah):Bool:=(cR b.s k).2&&decide ((cR b.s k).1.c=b.r)
def pb (b b':ao):Prop:=∀ k,iR b k=true->iR b' k=true
theorem pb.refl (b:ao):pb b b:=fun _ h=>h
theorem pb.trans {a b c:ao} (h:pb a b) (k:pb b c):pb a c:=fun x e=>k x (h x e)
def eb (m:List (ah×Bool)) (k:ah):Bool:=(dx aW k m).getD false
section
variable {l:List aX} {V:Nat->ByteArray} {b0 b:ao}
theorem lq.find (h:lq l b) (hl:l.length<=8) (k:ah):c8 b.s k=some (cR b.s k):=vJ (h.rm hl).1 k
theorem lq.found (h:lq l b) (O:(cR b.s k).2=true):uB l b.r (cR b.s k).1/\(cR b.s k).1.d=k :=
 ⟨h.recs _ (mg O).1,(mg O).2⟩
theorem lq.rdGood (h:lq l b) {x:ah} (hx:x∈EN b.s k):kI l x:=by
 unfold EN at hx;cases O:(cR b.s k).2 with
 | true=>exact (h.found O).1.good x hx
 | false=>rw [(vr O).1] at hx; cases hx
theorem Jh (h:lq l b) (hl:l.length<=8) {n:Nat} (hn:n<l.length) {v:ByteArray} (hv:v.size<=1000) {reads:List ah} (hr:reads.length<=3) (hg:∀ k∈reads,kI l k) :
  ∃ r,qL b (rk l n) v reads=some r/\uB l b.r r/\r.d=rk l n/\r.c=b.r:=by
 have hw:IntKind.i64.wrap (1+(reads.length:Int))=1+(reads.length:Int):=lU (by omega) (by omega);have mk:∀ c:Int,0<=c->c<=b.r->∃ r,ot b (rk l n) v reads c=some r/\uB l b.r r/\r.d=rk l n/\r.c=b.r:=fun c h1 h2 =>
  ⟨_,rfl,⟨⟨n,hn,rfl⟩,hv,hr,hg,h1,h2,sB _,by dsimp only; rw [hw]; omega,fun e=>by cases e⟩,rfl,rfl⟩
 have hrev:=h.rev;unfold qL;rw [h.find hl,ad];unfold ou;cases hf:(cR b.s (rk l n)).2 with
 | false=>exact mk _ hrev.1 (sB _)
 | true =>
  obtain⟨h1,_⟩:=h.found hf;rw [cond_true];cases (cR b.s (rk l n)).1.u.toList==v.toList with
  | true=>exact mk _ h1.low (by have:=h1.mid; have:=h1.high; omega)
  | false=>exact mk _ hrev.1 (sB _)
theorem lq.put (h:lq l b) (hr:uB l b.r r):lq l ⟨b.r,b.i,sm b.s r⟩ :=
 ⟨h.rev,h.ins,h.insA,fun x hx=>by rcases Mm hx with hx | rfl; exact h.recs x hx; exact hr,G1 h.recsA r⟩
theorem Oh (h:lq l b) (hr:r.c=b.r):pb b ⟨b.r,b.i,sm b.s r⟩/\iR ⟨b.r,b.i,sm b.s r⟩ r.d=true:=by
 refine⟨fun k O=>?_,?_⟩
 ·unfold iR at O ⊢;rw [Eu h.recsA];split
  ·simp [hr]
  ·exact O
 ·unfold iR;rw [Eu h.recsA,if_pos rfl];simp [hr]
theorem LW {rev:Int} (h:uB l rev r) (g:List ah) (d:Bool) (hd:d=true->∀ k∈g,rI k=true):uB l rev (lx g d rev r):=by
 unfold lx;split
 ·rename_i ha;split
  ·rename_i hdd;refine⟨h.key,h.value,h.reads,h.good,h.low,h.mid,h.high,h.cost,fun _=>?_⟩;obtain⟨x,hx,e⟩:=Aw.1 ha;rw [oa] at e;show rI r.d=true;rw [e];exact hd hdd x hx
  ·exact⟨h.key,h.value,h.reads,h.good,h.low,by have:=h.mid; have:=h.high; show r.x<=rev; omega,sB _,h.cost,h.dirty⟩
 ·exact h
theorem lq.mark (h:lq l b) (g:List ah) (d:Bool) (hd:d=true->∀ k∈g,rI k=true):lq l ⟨b.r,b.i,b.s.map (lx g d b.r)⟩ :=
 ⟨h.rev,h.ins,h.insA,fun x hx=>by obtain⟨y,hy,rfl⟩:=kC.1 hx; exact LW (h.recs y hy) g d hd,GW h.recsA g d _⟩
theorem Hg (h:lq l b) (g:List ah) (d:Bool):pb b ⟨b.r,b.i,b.s.map (lx g d b.r)⟩:=fun k O=>by
 unfold iR at O ⊢;rw [qj,decide_eq_true_eq] at O;rw [CJ h.recsA,if_pos O.1];unfold lx;split
 ·split
  ·simp [O.2]
  ·simp
 ·simp [O.2]
theorem Ix (h:lq l b) {g:List ah} (O:(cR b.s k).2=true) (hg:k∈g):iR ⟨b.r,b.i,b.s.map (lx g false b.r)⟩ k=true:=by
 unfold iR;rw [CJ h.recsA,if_pos O];have e:=(h.found O).2;unfold lx;rw [if_pos (by rw [e]; exact Aw.2 ⟨k,hg,AO k⟩)];simp
theorem Pa {recs:List ay} (I:JU recs) (rev:Int) (k:ah):Ok (oo recs rev k) fun m=>m.length<=1000/\k∈m/\((FH recs rev k=false/\m=[k])∨(FH recs rev k=true/\∀ x∈m,FH recs rev x=true)):=by
 cases ho:FH recs rev k with
 | true =>
  refine (Mr I ho).mono fun m hm=>⟨hm.len I ho,(hm.2 k).2 ⟨.refl,.refl⟩,.inr ⟨rfl,fun x hx=>w9 ho ((hm.2 x).1 hx).1⟩⟩
 | false =>
  unfold oo;rw [yU I.rm,ad,ho];exact ae ⟨by simp,dF.2 rfl,.inl ⟨rfl,rfl⟩⟩
theorem L7 {recs:List ay} {rev:Int} (h:FH recs rev k=true):rI k=true/\(cR recs k).2=true:=by
 unfold FH L8 at h;rw [qj,qj,qj] at h;obtain⟨h1,h2⟩:=mg h.1;rw [h2] at h;exact⟨h.2.1.1,h.1⟩
structure HM (l:List aX) (V:Nat->ByteArray) (b0:ao) (x:aQ):Prop where
 sol:uz l V b0 x.S
 base:lq l x.B
 rev:x.B.r=b0.r
 ins:x.B.i=b0.i
 nd:Nd x.m
theorem Ob {b:ao} (hb:Rm b.i.length) (k:ah):rW b k=some (H3 b k).x:=by
 unfold rW;rw [EP hb]; rfl
noncomputable def qS (x:aQ) (k:ah):Bool:=decide (k.k=1)||(decide (k.k=2)||decide (k.k=30))||(eb x.m k&&rI k)||iR x.B k
theorem MP {x:aQ} (h:lq l x.B) (hl:l.length<=8) (k:ah):jz x k=some (qS x k,x):=by
 unfold jz qS iR eb;rw [pA,ad];generalize (decide (k.k=1)||(decide (k.k=2)||decide (k.k=30)))=i;have j3f:de x k false=some ((cR x.B.s k).2&&decide ((cR x.B.s k).1.c=x.B.r),x):=by
  unfold de;rw [cond_false,h.find hl,ad];unfold jJ gp;cases (cR x.B.s k).2
  ·rfl
  ·rw [cond_true,Av];congr 2
 have j3t:de x k true=some (true,x):=rfl;cases i
 ·rw [cond_false,ad];cases (dx aW k x.m).getD false
  ·rw [cond_false,j3f]; rfl
  ·rw [cond_true,im,ad];cases rI k
   ·rw [j3f]; rfl
   ·rw [j3t]; rfl
 ·rw [cond_true,j3t]; rfl
variable (C:bM l) (hD:Fc l (uf b0) V) (hb0:Rm b0.i.length)
include C hD hb0
theorem Cn {s:az} (hs:uz l V b0 s) (hb:lq l b) (O:kI l k):Ok (my vv s b k) fun y=>uz l V b0 y.2:=by
 have hl:=C.high;unfold my;refine aG (pA _) (ar (fun _=>aG (Ob (hb.rm hl).2.1 k) (ae hs)) (fun _=>aG (hb.find hl k) (ar (fun _=>ar (fun _=>?_) (fun _=>?_)) (fun _=>?_))))
 ·exact ae hs
 ·refine ai (Pn C hD hb0 hs O) fun y hy=>?_;unfold jg;cases y.1.toList==(cR b.s k).1.u.toList <;> exact ae hy.1
 ·exact ae hs
theorem Ej {s:az} (hs:uz l V b0 s) (hb:lq l b) (O:kI l k):Ok (nI vv s b k) fun y=>uz l V b0 y.2:=by
 have hl:=C.high;unfold nI;refine aG (im _) (ar (fun _=>?_) (fun _=>?_))
 ·exact ai (Pn C hD hb0 hs O) fun y hy=>ae hy.1
 ·have:Ok (tA b k) fun _=>True:=by
   unfold tA;refine aG (pA _) (ar (fun _=>aG (I7 (hb.rm hl).2.1 k) (ae trivial)) (fun _=>aG (hb.find hl k) (ar (fun _=>?_) (fun _=>?_))))
   ·unfold oq;cases ((cR b.s k).1.c==b.r) <;> exact ae trivial
   ·exact ae trivial
  exact ai this fun y _=>ae hs
end
end
section
open Go.Lib hiding intOf
section
variable (l:List aX) (inp:ah->ByteArray) (V:Nat->ByteArray) (r:aX)
end
section
variable {l:List aX} {inp inp':ah->ByteArray}
theorem G5 {n:Nat}:(rk l n).k≠30:=by rcases Ae (l:=l) (n:=n) with h | h <;> rw [h] <;> decide
section
variable {V:Nat->ByteArray} {r:aX}
end
section
variable (C:bM l) {n:Nat} {r:aX} (h:l[n]? = some r)
include C h
end
end
end
section
open Go.Lib hiding intOf
section
variable {l:List aX} {H:Int->ah->ByteArray} {b:ao} {P P':ah->Prop}
end
section
variable {l:List aX} {H:Int->ah->ByteArray} {b b0:ao} {V:Nat->ByteArray} {P:ah->Prop} (C:bM l) (hD:Fc l (uf b0) V) (hb0:Rm b0.i.length) (hV:V=Vd l (H b.r))
include C hD hb0 hV
end
end
section
open Go.Lib hiding intOf
section
variable {l:List aX} {b b' b'':ao}
end
section
variable {l:List aX} {H:Int->ah->ByteArray} {b b':ao} {P P':ah->Prop}
end
end
section
open Go.Lib hiding intOf
noncomputable def psi (l:List aX) (x:aQ):Nat:=x.z.length+Bn (fun n=>!iR x.B (rk l n)||eb x.m (rk l n)) l.length
noncomputable def Pk (l:List aX) (b:ao):Nat:=Bn (fun n=>!iR b (rk l n)) l.length
noncomputable def Kj (l:List aX) (m:List (ah×Bool)):Nat:=Bn (fun n=>!eb m (rk l n)) l.length
structure ql (l:List aX) (V:Nat->ByteArray) (b0:ao) (x x':aQ):Prop where
 ok:HM l V b0 x'
 ver:pb x.B x'.B
 busy:∀ k,eb x'.m k=eb x.m k
 psi:psi l x'<=psi l x
section
variable {l:List aX} {V:Nat->ByteArray} {b0:ao} {x y z:aQ}
theorem ql.refl (h:HM l V b0 x):ql l V b0 x x:=⟨h,pb.refl _,fun _=>rfl,cm _⟩
theorem ql.trans (h:ql l V b0 x y) (k:ql l V b0 y z):ql l V b0 x z:=⟨k.ok,h.ver.trans k.ver,fun q=>(k.busy q).trans (h.busy q),cN k.psi h.psi⟩
theorem Gv {b b':ao} {m m':List (ah×Bool)} (hv:pb b b') (hb:∀ k,eb m' k=true->eb m k=true) (N:Nat):Bn (fun n=>!iR b' (rk l n)||eb m' (rk l n)) N<=Bn (fun n=>!iR b (rk l n)||eb m (rk l n)) N:=by
 refine Ct (fun n h=>?_) N;rw [yg,tI] at h ⊢;rcases h with h | h
 ·left;cases e:iR b (rk l n) with
  | false=>rfl
  | true=>rw [hv _ e] at h; cases h
 ·exact .inr (hb _ h)
theorem ql.base (h:HM l V b0 x) {b:ao} (hb:lq l b) (hr:b.r=x.B.r) (hi:b.i=x.B.i) (hv:pb x.B b) {s:az} (hs:uz l V b0 s):ql l V b0 x ⟨s,b,x.m,x.z,x.E⟩ :=
 ⟨⟨hs,hb,hr.trans h.rev,hi.trans h.ins,h.nd⟩,hv,fun _=>rfl,Nat.add_le_add_left (Gv hv (fun _ e=>e) _) _⟩
def Td (l:List aX) (V:Nat->ByteArray) (b0:ao) (urec:aQ->ah->Option aQ) (f:Nat):Prop :=
 ∀ x k,HM l V b0 x->psi l x<=8->kI l k->Kj l x.m<f->Ok (urec x k) fun x'=>ql l V b0 x x'/\(x'.E=0->qS x' k=true)
theorem Bl {recs:List ay} {g h:List ah} {c:eB} (hc:c∈ic recs g h):c.k1∈EN recs c.x1:=by
 unfold ic KW at hc;obtain⟨m,_,hm⟩:=List.mem_flatMap.1 hc;obtain⟨y,hy,rfl⟩:=kC.1 hm;exact (oB.1 hy).1
theorem AQ {m m':List (ah×Bool)} (h:∀ k,eb m' k=eb m k):Kj l m'=Kj l m:=by
 unfold Kj;congr 1;funext n;rw [h]
theorem Lt {n:Nat}:(decide ((rk l n).k=1)||(decide ((rk l n).k=2)||decide ((rk l n).k=30)))=false:=cC ((pA _).symm.trans tF)
theorem yF {n:Nat}:(decide ((ia n).k=1)||(decide ((ia n).k=2)||decide ((ia n).k=30)))=true:=cC ((pA _).symm.trans qt)
abbrev NU (rev:Int) (ins:List bc) (recs:List ay) (busy:List (ah×Bool)) (ran:List ah) (e:Int) (rules:List aX) (srev:Int) (sins:List bc) (srecs:List ay) (memo:List (ah×ByteArray)) (seen:List (ah×(List ah))):aQ :=
 aQ.mk (az.mk rules (ao.mk srev sins srecs) memo seen) (ao.mk rev ins recs) busy ran e
def Tj (l:List aX) (V:Nat->ByteArray) (b0:ao) (x:aQ) (k:Nat):Int×Int×(List bc)×(List ay)×(List (ah×Bool))×(List ah)×Int×(List aX)×Int×(List bc)×(List ay)×(List (ah×ByteArray))×(List (ah×(List ah)))->Prop
 | (at_,rev,ins,recs,busy,ran,e,rules,srev,sins,srecs,memo,seen)=>∃ a:Nat,at_=(a:Int)/\a<=1000000/\ql l V b0 x (NU rev ins recs busy ran e rules srev sins srecs memo seen)/\(e=0->k+Pk l (ao.mk rev ins recs)*1000001+(1000000-a)<=20000000)/\k<=20000001
def Ug (l:List aX) (V:Nat->ByteArray) (b0:ao) (x:aQ) (k:ah):Fl (Int×(List bc)×(List ay)×(List (ah×Bool))×(List ah)×Int×(List aX)×Int×(List bc)×(List ay)×(List (ah×ByteArray))×(List (ah×(List ah)))) (Bool×aQ)->Prop
 | .go (rev,ins,recs,busy,ran,e,rules,srev,sins,srecs,memo,seen)=>ql l V b0 x (NU rev ins recs busy ran e rules srev sins srecs memo seen)/\e≠0
 | .out (a,x')=>ql l V b0 x x'/\(a=false->x'.E=0->iR x'.B k=true)
section
variable {urec:aQ->ah->Option aQ} {f n:Nat} (C:bM l) (hD:Fc l (uf b0) V) (hb0:Rm b0.i.length) (hu:Td l V b0 urec f) (hn:n<l.length) (hx:HM l V b0 x) (hp:psi l x<=8) (hf:Kj l x.m<f)
include C hD hb0 hu hn hx hp hf
omit hn hx in
theorem HX {k:Nat} (O:k<=20000001):∀ s,Tj l V b0 x k s->Ok (gn urec vv (rk l n) s.1 s.2.1 s.2.2.1 s.2.2.2.1 s.2.2.2.2.1 s.2.2.2.2.2.1 s.2.2.2.2.2.2.1 s.2.2.2.2.2.2.2.1 s.2.2.2.2.2.2.2.2.1 s.2.2.2.2.2.2.2.2.2.1 s.2.2.2.2.2.2.2.2.2.2.1 s.2.2.2.2.2.2.2.2.2.2.2.1 s.2.2.2.2.2.2.2.2.2.2.2.2) fun y=>match y with
   | .go s'=>k<20000001/\Tj l V b0 x (k+1) s'
   | .out y=>Ug l V b0 x (rk l n) y:=by
 rintro⟨at_,rev,ins,recs,busy,ran,e,rules,srev,sins,srecs,memo,seen⟩ ⟨a,rfl,ha,h1,h2,h3⟩;dsimp only;have hl:=C.high;have hE:=h1.ok;have hB:lq l (ao.mk rev ins recs):=hE.base;have I:JU recs:=(hB.rm hl).2.2;unfold gn;refine ar (fun he=>?_) (fun he=>ae ⟨h1,by simpa using he⟩);obtain rfl:e=0:=by simpa using he
 have h2:=h2 rfl;refine aG (hB.find hl _) ?_;unfold jI;refine ar (fun hn1=>ae ⟨h1,fun e=>by cases e⟩) (fun hfound=>?_);have hfound:(cR recs (rk l n)).2=true:=by simpa using hfound
 refine ar (fun _=>ae ⟨h1,fun e=>by cases e⟩) (fun hdirty=>?_);refine ar (fun hver=>ae ⟨h1,fun _ _=>?_⟩) (fun hver=>?_)
 ·show iR (ao.mk rev ins recs) (rk l n)=true;unfold iR;have:(cR recs (rk l n)).1.c=rev:=by simpa using hver
  simp [hfound,this]
 refine ai (Pa I rev (rk l n)) fun g ⟨hg1,hg2,hg3⟩=>?_;refine aG (Ep I (by omega)) ?_;have hlen:(ic recs g g).length<=1000000:=by have:=tO I g g; omega
 have hgm:Rm g.length:=by unfold Rm; omega
 refine ar (fun hat=>?_) (fun hat=>?_)
 ·refine aG (B0 (b:=ao.mk rev ins recs) (hB.rm hl).1 (hB.rm hl).2.1 hgm false) (ae ⟨h1.trans (ql.base hE (hB.mark g false (fun e=>by cases e)) rfl rfl (Hg hB g false) hE.sol),fun _ _=>Ix hB hfound hg2⟩)
 ·have hlt:a<(ic recs g g).length:=by have hat:¬ (((ic recs g g).length:Int)<=(a:Int)):=of_decide_eq_false hat; omega
  have hc:=cH hlt;generalize (ic recs g g)[a]=c at hc;have hcr:=Bl (aD hc);have hgood:=hB.rdGood (b:=ao.mk rev ins recs) hcr;refine aG (by rw [bn]; exact hc) (aG (MP hE.base hl c.k1) ?_);refine ar (fun hth=>?_) (fun hth=>?_)
  ·have hth:qS (NU rev ins recs busy ran 0 rules srev sins srecs memo seen) c.k1=false:=by simpa using hth
   refine ai (hu _ c.k1 h1.ok (cN h1.psi hp) hgood (by rw [AQ h1.busy]; exact hf)) fun x' ⟨g1,g2⟩=>?_;refine ae ⟨by omega,a,rfl,ha,h1.trans g1,fun e0=>?_,by omega⟩;have ht:=g2 e0;obtain⟨j,hj,hcj⟩:∃ j,j<l.length/\c.k1=rk l j:=by
    rcases hgood with⟨q,_,hq⟩ | h
    ·unfold qS at hth;rw [hq,yF] at hth;simp at hth
    ·exact h
   have hlt2:Pk l x'.B<Pk l (ao.mk rev ins recs):=by
    unfold Pk;unfold qS at ht hth;rw [hcj,Lt,Bool.false_or] at ht hth;rw [Bool.or_eq_false_iff] at hth;rw [g1.busy] at ht;have hth1:(eb busy (rk l j)&&rI (rk l j))=false:=hth.1;have hth2:iR (ao.mk rev ins recs) (rk l j)=false:=hth.2;have ht2:iR x'.B (rk l j)=true:=by
     have ht3:((eb busy (rk l j)&&rI (rk l j))||iR x'.B (rk l j))=true:=ht;rw [hth1,Bool.false_or] at ht3;exact ht3
    refine Fj (i:=j) (fun m hm=>?_) (by rw [ht2]; rfl) (by rw [hth2]; rfl) _ hj;rw [tI] at hm ⊢;cases e:iR (ao.mk rev ins recs) (rk l m) with
    | false=>rfl
    | true=>rw [g1.ver _ e] at hm; cases hm
   show k+1+Pk l x'.B*1000001+(1000000-a)<=20000000;omega
  ·refine aG (hB.find hl _) ?_;unfold jH;refine ai (Cn C hD hb0 h1.ok.sol h1.ok.base hgood) fun y hy=>?_;refine ar (fun _=>?_) (fun _=>?_)
   ·refine aG (im _) (ar (fun hcy=>?_) (fun _=>?_))
    ·refine aG (B0 (b:=ao.mk rev ins recs) (hB.rm hl).1 (hB.rm hl).2.1 hgm true) ?_;have hd:true=true->∀ q∈g,rI q=true:=fun _ q hq=>by
      rcases hg3 with⟨_,rfl⟩|⟨_,h⟩
      ·rw [dF.1 hq]; exact hcy
      ·exact (L7 (h q hq)).1
     exact ae ⟨h1.trans (ql.base hE (hB.mark g true hd) rfl rfl (Hg hB g true) hy),fun e=>by cases e⟩
    ·exact ae ⟨h1.trans (ql.base hE hB rfl rfl (pb.refl _) hy),fun e=>by cases e⟩
   ·refine ae ⟨by omega,a+1,cJ (by omega),by omega,h1.trans (ql.base hE hB rfl rfl (pb.refl _) hy),fun _=>?_,by omega⟩;show k+1+Pk l (ao.mk rev ins recs)*1000001+(1000000-(a+1))<=20000000;omega
omit hn in
theorem KV:Ok (gx urec vv x (rk l n)) fun y=>ql l V b0 x y.2/\(y.1=false->y.2.E=0->iR y.2.B (rk l n)=true):=by
 have hl:=C.high;unfold gx;refine bV (Tj l V b0 x) (Ug l V b0 x (rk l n)) 20000001 ⟨0,rfl,bY _,ql.refl hx,fun _=>?_,bY _⟩ (fun k s O hI=>(HX C hD hb0 hu hp hf O s hI).mono fun y hy=>by cases y <;> exact hy) ?_
 ·have:=xn (fun n=>!iR x.B (rk l n)) l.length;show 0+Pk l x.B*1000001+(1000000-0)<=20000000;unfold Pk;omega
 ·rintro (⟨rev,ins,recs,busy,ran,e,rules,srev,sins,srecs,memo,seen⟩|⟨a,x'⟩) hr
  ·exact ae ⟨hr.1,fun _ e0=>absurd e0 hr.2⟩
  ·exact ae hr
end
end
end
section
open Go.Lib hiding intOf
section
variable {l:List aX} {H:Int->ah->ByteArray} {b:ao} {P:ah->Prop}
end
section
variable {l:List aX} {H:Int->ah->ByteArray} {b b0:ao} {V:Nat->ByteArray} {P:ah->Prop} (C:bM l) (hD:Fc l (uf b0) V) (hb0:Rm b0.i.length) (hV:V=Vd l (H b.r))
include C hD hb0 hV
end
end
section
open Go.Lib hiding intOf
section
variable {l:List aX} {H:Int->ah->ByteArray} {b:ao} {P:ah->Prop}
end
section
variable {l:List aX} {V:Nat->ByteArray} {H:Int->ah->ByteArray} {b0:ao} {x y z:aQ}
section
variable {urec:aQ->ah->Option aQ} {f n:Nat} (C:bM l) (hD:Fc l (uf b0) V) (hb0:Rm b0.i.length) (hV:V=Vd l (H b0.r)) (hn:n<l.length) (hx:HM l V b0 x) (hp:psi l x<=8) (hf:Kj l x.m<f)
 (hbl:∀ m,m<l.length->eb x.m (rk l m)=true->(bS l)[m]? ≠ some true->m≠n->uU (bS l) n<uU (bS l) m)
include C hD hb0 hV hn hx hp hf hbl
end
end
end
section
open Go.Lib hiding intOf
theorem CO {n:Nat} (h:n<65536):(db (n:Int)).size<=1000:=by
 have h1:(db n).size=(itoa n).length:=by simp [db,ByteArray.size]
 have:=zB n 9 (by omega);rw [h1,pB]; omega
section
variable {l:List aX} {V:Nat->ByteArray} {b0:ao} {x y z:aQ}
structure Uh (l:List aX) (V:Nat->ByteArray) (b0:ao) (x:aQ) (k:ah) (x':aQ):Prop where
 ok:HM l V b0 x'
 ver:pb x.B x'.B
 busy:∀ k,eb x'.m k=eb x.m k
 psi:(x'.E=0/\psi l x'<=psi l x+1/\iR x'.B k=true)∨(x'.E≠0/\psi l x'<=psi l x)
def Tc (l:List aX) (V:Nat->ByteArray) (b0:ao) (x:aQ) (N k:Nat):(List ah)×(List ByteArray)×Int×(List bc)×(List ay)×(List (ah×Bool))×(List ah)×Int×(List aX)×Int×(List bc)×(List ay)×(List (ah×ByteArray))×(List (ah×(List ah)))->Prop
 | (rd,ws,rev,ins,recs,busy,ran,e,rules,srev,sins,srecs,memo,seen)=>ql l V b0 x (NU rev ins recs busy ran e rules srev sins srecs memo seen)/\ws.length=rd.length/\(∀ q∈rd,kI l q)/\rd.length<=N/\(e=0->rd.length=k)
def Tm (l:List aX) (V:Nat->ByteArray) (b0:ao) (x:aQ) (k:ah):Fl (Int×(List bc)×(List ay)×(List (ah×Bool))×(List ah)×Int×(List aX)×Int×(List bc)×(List ay)×(List (ah×ByteArray))×(List (ah×(List ah)))) aQ->Prop
 | .go (rev,ins,recs,busy,ran,e,rules,srev,sins,srecs,memo,seen)=>ql l V b0 x (NU rev ins recs busy ran e rules srev sins srecs memo seen)/\e≠0
 | .out x'=>Uh l V b0 x k x'
section
variable {urec:aQ->ah->Option aQ} {f n:Nat} {r:aX} (C:bM l) (hD:Fc l (uf b0) V) (hb0:Rm b0.i.length) (hu:Td l V b0 urec f) (hn:l[n]? = some r) (hp:psi l x<=8) (hf:Kj l x.m<f)
include C hD hb0 hu hn hp hf
theorem ME {k:Nat}:∀ s,Tc l V b0 x r.g.length k s->Ok (iE urec vv (rk l n) s.1 s.2.1 s.2.2.1 s.2.2.2.1 s.2.2.2.2.1 s.2.2.2.2.2.1 s.2.2.2.2.2.2.1 s.2.2.2.2.2.2.2.1 s.2.2.2.2.2.2.2.2.1 s.2.2.2.2.2.2.2.2.2.1 s.2.2.2.2.2.2.2.2.2.2.1 s.2.2.2.2.2.2.2.2.2.2.2.1 s.2.2.2.2.2.2.2.2.2.2.2.2.1 s.2.2.2.2.2.2.2.2.2.2.2.2.2) fun y=>match y with
   | .go s'=>k<r.g.length/\Tc l V b0 x r.g.length (k+1) s'
   | .out y=>Tm l V b0 x (rk l n) y:=by
 rintro⟨rd,ws,rev,ins,recs,busy,ran,e,rules,srev,sins,srecs,memo,seen⟩ ⟨h1,h2,h3,h4,h5⟩;dsimp only;have hl:=C.high;have h3l:=(C.each n r hn).asks;have hnl:=bh hn;have hE:=h1.ok;have hB:lq l (ao.mk rev ins recs):=hE.base;have hru:rules=l:=hE.sol.rules;unfold iE;refine ar (fun he=>?_) (fun he=>ae ⟨h1,by simpa using he⟩);obtain rfl:e=0:=by simpa using he
 have h5:=h5 rfl;obtain⟨t,ht,hcase⟩:=xD C hn (ws:=ws) (by omega);refine aG (by rw [hru]; exact ht) ?_;unfold kH;rcases hcase with⟨e1,rfl⟩|⟨w,hw,rfl⟩
 ·simp only [cond_true];refine aG (hB.find hl _) ?_;obtain⟨m,hm1,hm2⟩:=yD C hn (ls:=ws) (by omega);obtain⟨q,q1,q2,q3,q4⟩:=Jh hB hl hnl (v:=db (wz r ws)) (by rw [hm1]; exact CO hm2) (reads:=rd) (by omega) h3;have hran:ran.length<=8:=by have h:=h1.psi; unfold psi at h hp; have h:ran.length+_<=x.z.length+_:=h; omega
  have hput:nH recs q=some (sm recs q):=EQ hB.recsA (hB.rm hl).1.1 (by have:=q2.reads; unfold Rm; omega);have hj2:Ok (fY (rk l n) rd rev ins recs busy ran 0 rules srev sins srecs memo seen (db (wz r ws)) false) fun y=>match y with
   | .go s'=>k<r.g.length/\Tc l V b0 x r.g.length (k+1) s'
   | .out y=>Tm l V b0 x (rk l n) y:=by
   unfold fY;simp only [cond_false];refine aG q1 (aG hput (bC (dk (by simp; omega)) (ae ?_)));obtain⟨v1,v2⟩:=Oh hB q4;rw [q3] at v2;refine⟨⟨hE.sol,hB.put q2,hE.rev,hE.ins,hE.nd⟩,h1.ver.trans v1,h1.busy,.inl ⟨rfl,?_,v2⟩⟩;have hc:=Gv (l:=l) (m:=busy) v1 (fun _ e=>e) l.length;have hpp:=h1.psi;have hpp:ran.length+Bn (fun n=>!iR (ao.mk rev ins recs) (rk l n)||eb busy (rk l n)) l.length<=Go.Proofs.YtcpplgcgcbihoaaGreatDoor.psi l x:=hpp;show (ran++[rk l n]).length+Bn (fun n=>!iR (ao.mk rev ins (sm recs q)) (rk l n)||eb busy (rk l n)) l.length<=Go.Proofs.YtcpplgcgcbihoaaGreatDoor.psi l x+1;have hc:Bn (fun n=>!iR (ao.mk rev ins (sm recs q)) (rk l n)||eb busy (rk l n)) l.length<=Bn (fun n=>!iR (ao.mk rev ins recs) (rk l n)||eb busy (rk l n)) l.length:=hc;rw [bk];simp only [ip,sg];omega
  unfold kG;have hrl:=hB.nrec;have hrl:recs.length<=l.length:=hrl;refine ar (fun _=>?_) (fun _=>hj2);rw [decide_eq_false (by omega)];exact hj2
 ·simp only [cond_false];have hlt:=bh hw;obtain⟨_,hg⟩:=rF C hn hw ws;have hgood:kI l (uD l w ws):=by
   rcases hg with⟨_,c,hc,_,e4⟩|⟨_,j,hj,_,e4⟩
   ·exact .inl ⟨c,hc,e4⟩
   ·exact .inr ⟨j,by have:=CV hnl; omega,e4⟩
  refine ai (hu _ (uD l w ws) h1.ok (cN h1.psi hp) hgood (by rw [AQ h1.busy]; exact hf)) fun x' ⟨g1,g2⟩=>?_;refine ar (fun he=>?_) (fun he=>?_)
  ·have he:x'.E=0:=by simpa using he
   refine bC (dk (by simp; omega)) (ai (Ej C hD hb0 g1.ok.sol g1.ok.base hgood) fun y hy=>bC (dk (by simp; omega)) (ae ⟨by omega,(h1.trans g1).trans (ql.base g1.ok g1.ok.base rfl rfl (pb.refl _) hy),?_,?_,?_,fun _=>?_⟩))
   ·rw [bk,bk,h2]; rfl
   ·intro q hq;rcases dw.1 hq with hq | hq
    ·exact h3 q hq
    ·rw [dF.1 hq]; exact hgood
   ·rw [bk]; simp; omega
   ·rw [bk,h5]; rfl
  ·have he:x'.E≠0:=by simpa using he
   exact ae ⟨by omega,h1.trans g1,h2,h3,h4,fun e0=>absurd e0 he⟩
theorem Qs (hx:HM l V b0 x):Ok (jh urec vv x (rk l n)) (Uh l V b0 x (rk l n)):=by
 unfold jh;refine bV (Tc l V b0 x r.g.length) (Tm l V b0 x (rk l n)) r.g.length ⟨ql.refl hx,rfl,fun q hq=>absurd hq fu,bY _,fun _=>rfl⟩ (fun k s O hI=>(ME C hD hb0 hu hn hp hf s hI).mono fun y hy=>by cases y <;> exact hy) ?_;rintro (⟨rev,ins,recs,busy,ran,e,rules,srev,sins,srecs,memo,seen⟩ | x') hr
 ·exact ae ⟨hr.1.ok,hr.1.ver,hr.1.busy,.inr ⟨hr.2,hr.1.psi⟩⟩
 ·exact ae hr
end
theorem zw (m:List (ah×Bool)) (k j:ah):eb (gT aW k true m) j=(decide (j=k)||eb m j):=by
 unfold eb;by_cases e:j=k
 ·subst e;rw [iV]; simp
 ·rw [mR e]; simp [e]
theorem Gn {m:List (ah×Bool)} (h:Nd m) (k j:ah):eb (ui aW k m) j=(!decide (j=k)&&eb m j):=by
 unfold eb;rw [LZ qY j k h];by_cases e:j=k
 ·subst e;rw [GO]; simp
 ·rw [LD e]; simp [e]
section
variable {urec:aQ->ah->Option aQ} {f n:Nat} (C:bM l) (hD:Fc l (uf b0) V) (hb0:Rm b0.i.length) (hu:Td l V b0 urec f) (hn:n<l.length) (hx:HM l V b0 x) (hp:psi l x<=8) (hf:Kj l x.m<f+1)
include C hD hb0 hu hn hx hp hf
theorem QA (hv:iR x.B (rk l n)=false) (hbu:eb x.m (rk l n)=false):Ok ((gx urec vv (aQ.mk x.S x.B (gT aW (rk l n) true x.m) x.z x.E) (rk l n)).bind fun u116=>cond u116.1 ((jh urec vv (aQ.mk (az.mk u116.2.S.a (ao.mk u116.2.S.b.r u116.2.S.b.i u116.2.S.b.s) u116.2.S.e u116.2.S.n) (ao.mk u116.2.B.r u116.2.B.i u116.2.B.s) u116.2.m u116.2.z u116.2.E) (rk l n)).bind fun u117=>gy (rk l n) u117.B.r u117.B.i u117.B.s u117.m u117.z u117.E u117.S.a u117.S.b.r u117.S.b.i u117.S.b.s u117.S.e u117.S.n) (gy (rk l n) u116.2.B.r u116.2.B.i u116.2.B.s u116.2.m u116.2.z u116.2.E u116.2.S.a u116.2.S.b.r u116.2.S.b.i u116.2.S.b.s u116.2.S.e u116.2.S.n))
  fun x'=>ql l V b0 x x'/\(x'.E=0->qS x' (rk l n)=true):=by
 have hl:=C.high;have hi:=cH hn;have hx1:HM l V b0 (aQ.mk x.S x.B (gT aW (rk l n) true x.m) x.z x.E):=⟨hx.sol,hx.base,hx.rev,hx.ins,Nd.put qY hx.nd _ _⟩;have hp1:psi l (aQ.mk x.S x.B (gT aW (rk l n) true x.m) x.z x.E)<=psi l x:=by
  refine Nat.add_le_add_left (Ct (fun m hm=>?_) _) _;rw [yg] at hm ⊢;rcases hm with hm | hm
  ·exact .inl hm
  ·rw [zw,yg,decide_eq_true_eq] at hm;rcases hm with hm | hm
   ·left; rw [hm,hv]; rfl
   ·exact .inr hm
 have hf1:Kj l (gT aW (rk l n) true x.m)<f:=by
  have:Kj l (gT aW (rk l n) true x.m)<Kj l x.m:=by
   refine Fj (i:=n) (fun m hm=>?_) (by rw [zw]; simp) (by rw [hbu]; rfl) _ hn;rw [zw,tI,Bool.or_eq_false_iff] at hm;rw [hm.2]; rfl
  omega
 have fin:∀ {x2:aQ},HM l V b0 x2->pb x.B x2.B->(∀ k,eb x2.m k=(decide (k=rk l n)||eb x.m k))->(psi l x2<=psi l x∨(psi l x2<=psi l x+1/\iR x2.B (rk l n)=true))->(x2.E=0->iR x2.B (rk l n)=true) ->
   ql l V b0 x ⟨x2.S,x2.B,ui aW (rk l n) x2.m,x2.z,x2.E⟩/\(x2.E=0->qS ⟨x2.S,x2.B,ui aW (rk l n) x2.m,x2.z,x2.E⟩ (rk l n)=true):=by
  intro x2 q1 q2 q3 q4 q5;have hbz:∀ k,eb (ui aW (rk l n) x2.m) k=eb x.m k:=fun k=>by
   rw [Gn q1.nd,q3];by_cases e:k=rk l n
   ·rw [e,hbu]; simp
   ·simp [e]
  have hm:∀ m,(!iR x2.B (rk l m)||eb (ui aW (rk l n) x2.m) (rk l m))=true->(!iR x2.B (rk l m)||eb x2.m (rk l m))=true:=fun m hm=>by
   rw [yg] at hm ⊢;rcases hm with hm | hm
   ·exact .inl hm
   ·rw [Gn q1.nd,qj] at hm;exact .inr hm.2
  refine⟨⟨⟨q1.sol,q1.base,q1.rev,q1.ins,Nd.del qY q1.nd _⟩,q2,hbz,?_⟩,fun e0=>?_⟩
  ·rcases q4 with q4 | ⟨q4,q6⟩
   ·exact cN (Nat.add_le_add_left (Ct hm _) _) q4
   ·have hlt:Bn (fun m=>!iR x2.B (rk l m)||eb (ui aW (rk l n) x2.m) (rk l m)) l.length<Bn (fun m=>!iR x2.B (rk l m)||eb x2.m (rk l m)) l.length:=Fj (i:=n) hm (by rw [q6,hbz,hbu]; rfl) (by rw [q3]; simp) l.length hn;have q4:x2.z.length+Bn (fun m=>!iR x2.B (rk l m)||eb x2.m (rk l m)) l.length<=Go.Proofs.YtcpplgcgcbihoaaGreatDoor.psi l x+1:=q4;show x2.z.length+Bn (fun m=>!iR x2.B (rk l m)||eb (ui aW (rk l n) x2.m) (rk l m)) l.length<=Go.Proofs.YtcpplgcgcbihoaaGreatDoor.psi l x;omega
  ·unfold qS;have:iR x2.B (rk l n)=true:=q5 e0;show (_||iR x2.B (rk l n))=true;rw [this,Bool.or_true]
 refine ai (KV C hD hb0 hu hx1 (cN hp1 hp) hf1) fun u ⟨g1,g2⟩=>?_;have hbu2:∀ k,eb u.2.m k=(decide (k=rk l n)||eb x.m k):=fun k=>by rw [g1.busy,zw]
 refine ar (fun hc=>?_) (fun hc=>?_)
 ·refine ai (Qs C hD hb0 hu hi (x:=u.2) (cN g1.psi (cN hp1 hp)) (by rw [AQ g1.busy]; exact hf1) g1.ok) fun x3 h3=>?_;refine ae (fin h3.ok (pb.trans g1.ver h3.ver) (fun k=>(h3.busy k).trans (hbu2 k)) ?_ fun e0=>?_)
  ·have:=cN g1.psi hp1;rcases h3.psi with⟨_,h,h'⟩|⟨_,h⟩
   ·exact .inr ⟨by omega,h'⟩
   ·exact .inl (by omega)
  ·rcases h3.psi with⟨_,_,h'⟩|⟨h,_⟩
   ·exact h'
   ·exact absurd e0 h
 ·exact ae (fin g1.ok g1.ver hbu2 (.inl (cN g1.psi hp1)) (g2 hc))
end
theorem Pm (C:bM l) (hD:Fc l (uf b0) V) (hb0:Rm b0.i.length):∀ f,Td l V b0 (KD f) f
 | 0=>fun x k _ _ _ h=>absurd h (by omega)
 | f+1=>by
  intro x k hx hp O hf;have ih:=Pm C hD hb0 f;have hl:=C.high;show Ok (ma (KD f) vv x k) _;unfold ma;refine ar (fun he=>ae ⟨ql.refl hx,fun e0=>by rw [e0] at he; cases he⟩) (fun he=>?_);refine aG (pA k) (ar (fun hi=>ae ⟨ql.refl hx,fun _=>?_⟩) (fun hi=>?_))
  ·unfold qS;rw [hi]; rfl
  ·obtain⟨n,hn,rfl⟩:∃ n,n<l.length/\k=rk l n:=by
    rcases O with⟨c,_,rfl⟩ | h
    ·rw [yF] at hi; cases hi
    ·exact h
   refine aG (hx.base.find hl _) ?_;have hj3:iR x.B (rk l n)=false->Ok (gz (KD f) vv x (rk l n) false) fun x'=>ql l V b0 x x'/\(x'.E=0->qS x' (rk l n)=true):=fun hv=>by
    unfold gz;simp only [cond_false,ad];refine ar (fun hbu=>?_) (fun hbu=>QA C hD hb0 ih hn hx hp hf hv hbu);refine aG (im _) (ar (fun hcy=>?_) (fun hcy=>?_))
    ·exact ae ⟨⟨⟨hx.sol,hx.base,hx.rev,hx.ins,hx.nd⟩,pb.refl _,fun _=>rfl,cm _⟩,fun e0=>by cases e0⟩
    ·refine ae ⟨⟨⟨hx.sol,hx.base,hx.rev,hx.ins,hx.nd⟩,pb.refl _,fun _=>rfl,cm _⟩,fun e0=>?_⟩;have hc:rI (rk l n)=true:=by simpa using hcy
     have hbu:eb x.m (rk l n)=true:=hbu;unfold qS;show (_||(eb x.m (rk l n)&&rI (rk l n))||_)=true;rw [hc,hbu]; simp
   unfold lI;refine ar (fun hf2=>?_) (fun hf2=>hj3 (by unfold iR; rw [hf2]; rfl));cases hver:((cR x.B.s (rk l n)).1.c==x.B.r) with
   | true =>
    refine ae ⟨ql.refl hx,fun _=>?_⟩;unfold qS iR;rw [hf2,show (cR x.B.s (rk l n)).1.c=x.B.r by simpa using hver];simp
   | false=>exact hj3 (by unfold iR; rw [show decide ((cR x.B.s (rk l n)).1.c=x.B.r)=false by simpa using hver,Bool.and_false])
end
end
section
open Go.Lib hiding intOf
section
variable {l:List aX} {V:Nat->ByteArray} {H:Int->ah->ByteArray} {b0:ao} {x y z:aQ}
section
variable {urec:aQ->ah->Option aQ} {f n:Nat} {r:aX} (C:bM l) (hD:Fc l (uf b0) V) (hb0:Rm b0.i.length) (hV:V=Vd l (H b0.r)) (hn:l[n]? = some r) (hx:HM l V b0 x) (hp:psi l x<=8) (hf:Kj l x.m<f)
 (hbl:∀ m,m<l.length->eb x.m (rk l m)=true->(bS l)[m]? ≠ some true->m≠n->uU (bS l) n<uU (bS l) m) (ho:FH x.B.s x.B.r (rk l n)=false)
include C hD hb0 hV hn hx hp hf hbl ho
end
section
variable {urec:aQ->ah->Option aQ} {f n:Nat} (C:bM l) (hD:Fc l (uf b0) V) (hb0:Rm b0.i.length) (hV:V=Vd l (H b0.r)) (hn:n<l.length) (hx:HM l V b0 x) (hp:psi l x<=8) (hf:Kj l x.m<f+1) (he:x.E=0)
include C hD hb0 hV hn hx hp hf he
end
end
end
section
open Go.Lib hiding intOf
theorem dL {ρ:Type} {B:Int->Option (Fl Int ρ)} {r:ρ} (n:Nat) (hgo:∀ k,k<n->B (k:Int)=some (.go ((k+1:Nat):Int))) (hn:B (n:Int)=some (.out r)):loop B 0=some r :=
 mK (B:=B) (fun k=>(k:Int)) n rfl hgo hn
section
variable {l:List aX} {b:ao}
theorem Kq (hl:l.length<=8) {rev:Int} (hrev:rev<=1000000) {r:ay} (h:uB l rev r):m4 r=some true:=by
 obtain⟨n,hn,O⟩:=h.key;have h3:=h.reads;have h4:=h.value;have h5:=h.low;have h6:=h.mid;have h7:=h.high;have h8:=h.cost;unfold m4;refine gG (dL (r:=Fl.go ()) r.v.length (fun k O=>?_) ?_) ?_
 ·unfold fC;rw [dlt O,cond_true,bq O,ad,(h.good _ (iK O)).valid hl,ad,cJ (by omega)];rfl
 ·unfold fC;rw [bN]; rfl
 ·show kY r=some true;unfold kY;rw [O,Dg (by omega),ad,cond_true,tF,ad,decide_eq_true (by omega),decide_eq_true (by omega),decide_eq_true (by omega),decide_eq_true (by omega),decide_eq_true (by omega),decide_eq_true (by omega),decide_eq_true (by omega)];simp only [fv,cond_true];rw [im,ad];unfold cQ;cases hd:r.w with
  | false=>rfl
  | true =>
   have:=h.dirty hd;rw [O] at this;rw [this]; rfl
theorem MZ (h:lq l b) (hl:l.length<=8):iy b.s=some true:=by
 have hn:=h.nrec;unfold iy;refine gG (dL (r:=Fl.go ()) b.s.length (fun k O=>?_) ?_) ?_
 ·unfold dD;rw [dlt O,cond_true,bq O,ad,Kq hl h.rev.2 (h.recs _ (iK O)),ad];have hj:em (k:Int) false=some (.go ((k+1:Nat):Int)):=by unfold em; rw [cJ (by omega)]; rfl
  simp only [dJ,cond_false];rcases y6 k with h0 | h0
  ·subst h0;exact hj
  ·rw [decide_eq_true (by omega),cond_true,show IntKind.i64.wrap ((k:Int)-1)=((k-1:Nat):Int) by rw [lU (by omega) (by omega)]; omega,bq (show k-1<b.s.length by omega),ad,mC,ad];have:=gC.1 h.recsA (k-1) k (by omega) O (by omega);rw [decide_eq_false (by omega)];exact hj
 ·unfold dD;rw [bN]; rfl
 ·show some (decide ((b.s.length:Int)<=4000))=some true;rw [decide_eq_true (by omega)]
theorem F4 (h:lq l b) (hl:l.length<=8):ge b=some true:=by
 have hn:=h.nrec;have hi:=h.nin;have hrev:=h.rev;unfold ge;refine gG (dL (r:=Fl.go ()) b.i.length (fun k O=>?_) ?_) ?_
 ·have hx:=h.ins _ (iK O);obtain⟨c,hc,hkey⟩:=hx.key;have h1:=hx.value;have h2:=hx.low;have h3:=hx.high;unfold fG;rw [dlt O,cond_true,bq O,ad,hkey,yt (by omega),ad];have hj:cZ (k:Int) false=some (.go ((k+1:Nat):Int)):=by unfold cZ; rw [cJ (by omega)]; rfl
  simp only [dJ,cond_false];rw [qt,ad];simp only [dJ,cond_false];rw [decide_eq_false (show ¬ (1073741824:Int)<(b.i[k].u.size:Int) by omega),decide_eq_false (show ¬ (b.i[k].x:Int)<0 by omega),decide_eq_false (show ¬ (b.r:Int)<b.i[k].x by omega)];rcases y6 k with h0 | h0
  ·subst h0;exact hj
  ·rw [decide_eq_true (by omega),cond_true,show IntKind.i64.wrap ((k:Int)-1)=((k-1:Nat):Int) by rw [lU (by omega) (by omega)]; omega,bq (show k-1<b.i.length by omega),ad,mC,ad];have:=gC.1 h.insA (k-1) k (by omega) O (by omega);rw [hkey] at this;rw [decide_eq_false (by omega)];exact hj
 ·unfold fG;rw [bN]; rfl
 ·show k7 b=some true;unfold k7;refine gG (dL (r:=Fl.go ()) b.s.length (fun k O=>?_) ?_) ?_
  ·have:=(h.recs _ (iK O)).high;unfold fF;rw [dlt O,cond_true,bq O,ad,decide_eq_false (by omega),cJ (by omega)]; rfl
  ·unfold fF;rw [bN]; rfl
  ·show k6 b=some true;unfold k6;rw [decide_eq_true hrev.1,decide_eq_true (by omega),decide_eq_true (by omega),MZ h hl]; rfl
theorem Mt (hl:l.length<=8) {k:ah} (O:kI l k):pm l k=some true:=by
 unfold pm;rw [O.valid hl,ad,cond_true];rcases O with⟨c,hc,rfl⟩|⟨n,hn,rfl⟩
 ·rfl
 ·have h1:∀ q,hS ((q:ah).k==q.k&&q.t.toList==q.t.toList)=some true:=fun q=>by unfold hS; simp
  rcases sQ (l:=l) (n:=n) with⟨h,_⟩|⟨h,_⟩
  ·rw [show ((rk l n).k != 31)=false by rw [h]; rfl,cond_false,qP,ad,De (by omega),Df hn (by omega),ad];exact h1 _
  ·rw [show ((rk l n).k != 31)=true by rw [h]; rfl,cond_true,show ((rk l n).k != 32)=false by rw [h]; rfl,cond_false,qP,ad,De (by omega),Df hn (by omega),ad];exact h1 _
theorem Fh (C:bM l) (h:lq l b) {goals:List ah} (hg:∀ k∈goals,kI l k) (hn:goals.length<=32):na l b goals=some 0:=by
 have hl:=C.high;unfold na;rw [Ks C.bnd,H5 C,ad];simp only [dJ,cond_false];rw [F4 h hl,ad,decide_eq_false (by omega)];simp only [dJ,cond_false];refine gG (dL (r:=Fl.go ()) goals.length (fun k O=>?_) ?_) rfl
 ·unfold nb;rw [dlt O,cond_true,bq O,ad,Mt hl (hg _ (iK O)),ad,cJ (by omega)]; rfl
 ·unfold nb;rw [bN]; rfl
def Ux (l:List aX) (V:Nat->ByteArray) (b0:ao) (k:Nat):Int×Int×(List bc)×(List ay)×(List (ah×Bool))×(List ah)×Int×(List aX)×Int×(List bc)×(List ay)×(List (ah×ByteArray))×(List (ah×(List ah)))->Prop
 | (i,rev,ins,recs,busy,ran,e,rules,srev,sins,srecs,memo,seen)=>i=(k:Int)/\HM l V b0 (NU rev ins recs busy ran e rules srev sins srecs memo seen)/\psi l (NU rev ins recs busy ran e rules srev sins srecs memo seen)<=8
def Uy (l:List aX) (V:Nat->ByteArray) (b0:ao):Int×(List bc)×(List ay)×(List (ah×Bool))×(List ah)×Int×(List aX)×Int×(List bc)×(List ay)×(List (ah×ByteArray))×(List (ah×(List ah)))->Prop
 | (rev,ins,recs,busy,ran,e,rules,srev,sins,srecs,memo,seen)=>HM l V b0 (NU rev ins recs busy ran e rules srev sins srecs memo seen)/\psi l (NU rev ins recs busy ran e rules srev sins srecs memo seen)<=8
structure yp (l:List aX) (b b':ao):Prop where
 ok:lq l b'
 rev:b'.r=b.r
 ins:b'.i=b.i
theorem Db (C:bM l) (h:lq l b) {goals:List ah} (hg:∀ k∈goals,kI l k) (hn:goals.length<=32):Ok (mx uu l b goals) fun y=>yp l b y.1:=by
 have hl:=C.high;have hb0:=(h.rm hl).2.1;have hD:=Lf (uf b) C;have hcp:=yx (h.rm hl).1 hb0;unfold mx;rw [hcp,ad,Fh C h hg hn,ad];simp only [show ((0:Int) != 0)=false from rfl,cond_false];refine aG (v:=az.mk l b [] []) rfl ?_;rw [hcp,ad];unfold nJ;refine bV (Ux l (Vd l (uf b)) b) (Uy l (Vd l (uf b)) b) goals.length ?_ ?_ ?_
 ·refine⟨rfl,⟨⟨rfl,rfl,fun n _ v e=>(by cases e),fun c=>rfl⟩,h,rfl,rfl,sD⟩,?_⟩;have:=xn (fun n=>!iR b (rk l n)||eb [] (rk l n)) l.length;show 0+Bn (fun n=>!iR b (rk l n)||eb [] (rk l n)) l.length<=8;omega
 ·rintro k ⟨i,rev,ins,recs,busy,ran,e,rules,srev,sins,srecs,memo,seen⟩ O ⟨rfl,h1,h2⟩;dsimp only;unfold nK;refine ar (fun hlt=>?_) (fun _=>ae ⟨h1,h2⟩);have hlt:k<goals.length:=by have:=of_decide_eq_true hlt; omega
  have hnb:=xn (fun n=>!eb busy (rk l n)) l.length;refine aG (bq hlt) (ai (Pm C hD hb0 40 _ _ h1 h2 (hg _ (iK hlt)) (show Bn (fun n=>!eb busy (rk l n)) l.length<40 by omega)) fun x' ⟨g1,_⟩=>?_);exact ae ⟨hlt,cJ (by omega),g1.ok,cN g1.psi h2⟩
 ·rintro⟨rev,ins,recs,busy,ran,e,rules,srev,sins,srecs,memo,seen⟩ ⟨h1,h2⟩;dsimp only;unfold k8;refine ar (fun _=>ae ⟨h,rfl,rfl⟩) (fun _=>?_);have hr:ran.length<=8:=by
   have h2:ran.length+_<=8:=h2;omega
  obtain⟨m,hm,_⟩:=yd (l:=ran) (by unfold Rm; omega);exact aG hm (ae ⟨h1.base,h1.rev,h1.ins⟩)
theorem NK (C:bM l) {d:List Int} {i:Int} (hd:cD d i):Ok (uO ⟨d,i⟩ l) fun y=>kI l y.1/\cD y.2.L y.2.s1:=by
 have hl:=C.high;have h2l:=C.low;unfold uO;refine ai (eE hd (by omega) (by omega)) fun y ⟨_,_,d1⟩=>ar (fun _=>?_) (fun _=>?_)
 ·refine ai (eE d1 (by omega) (by omega)) fun z ⟨z1,z2,d2⟩=>?_;obtain⟨c,hc⟩:∃ c:Nat,z.1=c:=⟨z.1.toNat,by omega⟩;rw [hc];exact aG (yP (by omega)) (ae ⟨.inl ⟨c,by omega,rfl⟩,d2⟩)
 ·refine ai (eE d1 (by omega) (by omega)) fun z ⟨z1,z2,d2⟩=>ar (fun _=>?_) (fun _=>?_)
  ·refine ai (eE d2 (by omega) (by omega)) fun w ⟨w1,w2,d3⟩=>?_;have e1:IntKind.i64.wrap ((l.length:Int)-1)=(l.length:Int)-1:=lU (by omega) (by omega);rw [e1,lU (by omega) (by omega)];obtain⟨c,hc⟩:∃ c:Nat,(l.length:Int)-1-w.1=c:=⟨((l.length:Int)-1-w.1).toNat,by omega⟩;rw [hc];exact aG (Df (by omega) (by omega)) (ae ⟨.inr ⟨c,by omega,rfl⟩,d3⟩)
  ·refine ai (eE d2 (by omega) (by omega)) fun w ⟨w1,w2,d3⟩=>?_;obtain⟨c,hc⟩:∃ c:Nat,w.1=c:=⟨w.1.toNat,by omega⟩;rw [hc];exact aG (Df (by omega) (by omega)) (ae ⟨.inr ⟨c,by omega,rfl⟩,d3⟩)
theorem CM (C:bM l) {d:List Int} {i:Int} (hd:cD d i) {most:Int} (h1:1<=most) (h2:most<=30):Ok (o0 ⟨d,i⟩ l most) fun y=>(∀ k∈y.1,kI l k)/\y.1.length<=32/\cD y.2.L y.2.s1:=by
 unfold o0;refine ai (eE hd h1 (by omega)) fun y ⟨y1,y2,d1⟩=>?_;rw [lU (by omega) (by omega)];refine bV (fun (k:Nat) (s:(List ah)×Int×(List Int)×Int)=>(∀ q∈s.1,kI l q)/\s.1.length=k/\s.2.1=y.1+1-k/\cD s.2.2.1 s.2.2.2) (fun r=>(∀ q∈r.1,kI l q)/\r.1.length<=32/\cD r.2.1 r.2.2) 31 ⟨fun q hq=>absurd hq fu,rfl,by simp,d1⟩ ?_ (fun r hr=>ae hr);rintro k ⟨gs,c,d,i⟩ O ⟨g1,g2,g3,g4⟩;dsimp only at g1 g2 g3 g4 ⊢;unfold q8;refine ar (fun hc=>?_) (fun _=>ae ⟨g1,by show gs.length<=32; omega,g4⟩);have hc:=of_decide_eq_true hc;refine ai (NK C g4) fun z ⟨z1,z2⟩=>bC (dk (by simp; omega)) (ae ⟨by omega,?_,by rw [bk,g2]; rfl,?_,z2⟩)
 ·intro q hq;rcases dw.1 hq with hq | hq
  ·exact g1 q hq
  ·rw [dF.1 hq]; exact z1
 ·show IntKind.i64.wrap (c-1)=_;rw [lU (by omega) (by omega)]; omega
end
end
section
open Go.Lib hiding intOf
section
variable {l:List aX} {V:Nat->ByteArray} {H:Int->ah->ByteArray} {b:ao}
end
end
section
open Go.Lib hiding intOf
variable {fs:List cb}
section
variable {l:List aX} {V:Nat->ByteArray} {b0 b:ao}
theorem Fk (C:bM l):mb l=some l:=by
 have h8:=C.high;unfold mb lJ;refine gG (ej (xs:=l) (fun k=>(l.take k,(k:Int))) rfl (r:=l) (fun k x hx=>?_) ?_) rfl
 ·have hlt:=bh hx;have:=(C.each k x hx).asks;unfold jA;dsimp only;rw [dlt hlt,cond_true,bn,hx,ad,dk (by simp; omega),dk (by rw [eS]; simp; omega),cJ (by omega),bX hx];rfl
 ·unfold jA;dsimp only;rw [bN,fW]; rfl
structure Gd (l:List aX) (f:cb):Prop where
 key:∃ n,n<l.length/\f.d=rk l n
 at0:0<=f.s1
 at1:f.s1<=1000000
 reads:f.v.length<=3
 same:f.q.length=f.v.length
 good:∀ k∈f.v,kI l k
theorem xT (h:∀ f∈fs,Gd l f) (hl:fs.length<=1000):fp fs=some fs:=by
 unfold fp dj;refine gG (ej (xs:=fs) (fun k=>(fs.take k,(k:Int))) rfl (r:=fs) (fun k x hx=>?_) ?_) rfl
 ·have hlt:=bh hx;have hf:=h x (aD hx);have h1:=hf.reads;have h2:=hf.same;unfold cA;dsimp only;rw [dlt hlt,cond_true,bn,hx,ad,dk (by simp; omega),dk (by simp; omega),dk (by rw [eS]; simp; omega),cJ (by omega),bX hx];rfl
 ·unfold cA;dsimp only;rw [bN,fW]; rfl
theorem L5 (hl:fs.length<=1000) (k:ah):Ok (tB fs k) fun _=>True:=by
 unfold tB;refine bV (fun (i:Nat) (s:Int)=>s=i/\i<=fs.length) (fun _=>True) fs.length ⟨rfl,bY _⟩ ?_ ?_
 ·rintro i _ hi ⟨rfl,_⟩;unfold tV;refine ar (fun hlt=>?_) (fun _=>ae trivial);have hlt:i<fs.length:=by have:=of_decide_eq_true hlt; omega
  refine aG (bq hlt) (ar (fun _=>ae trivial) (fun _=>ae ⟨hlt,cJ (by omega),hlt⟩))
 ·rintro (_ | _) _ <;> exact ae trivial
theorem EJ (hl:l.length<=8) (hb:lq l b) (hf:fs.length<=1000) {k:ah} (O:kI l k):Ok (nL b fs k) fun y=>y=true->∃ n,n<l.length/\k=rk l n:=by
 unfold nL;refine aG (pA k) (ar (fun _=>ae fun e=>by cases e) (fun hi=>?_));have hn:∃ n,n<l.length/\k=rk l n:=by
  rcases O with⟨c,_,rfl⟩ | h
  ·rw [yF] at hi; cases hi
  ·exact h
 refine ai (L5 hf k) fun _ _=>ar (fun _=>ae fun _=>hn) (fun _=>aG (hb.find hl k) (ar (fun _=>ae fun _=>hn) (fun _=>ae fun _=>hn)))
theorem Jg (hl:l.length<=8) (hb:lq l b) (hf:fs.length<=1000) {k:ah} (O:kI l k):Ok (qM b fs [] k) fun y=>y=1->∃ n,n<l.length/\k=rk l n:=by
 have hj:∀ g,Ok (mz b fs [] k g) fun y=>y=1->∃ n,n<l.length/\k=rk l n:=fun g=>by
  unfold mz;refine ar (fun _=>ae fun e=>by cases e) (fun _=>ai (EJ hl hb hf O) fun y hy=>ar (fun _=>ae fun e=>by cases e) (fun hn=>?_));have hn:=hy (by simpa using hn);refine ai (L5 (by simp) k) fun _ _=>ar (fun _=>ae fun _=>hn) (fun _=>aG (im _) (ar (fun _=>ae fun _=>hn) (fun _=>ae fun _=>hn)))
 unfold qM;exact aG (im _) (ar (fun _=>ai (L5 hf k) fun _ _=>hj _) (fun _=>hj _))
structure IJ (l:List aX) (V:Nat->ByteArray) (b0 b:ao) (N:Nat) (y:ao×(List cb)×(List ah)×Bool×Int×az):Prop where
 lv:yp l b y.1
 fr:∀ f∈y.2.1,Gd l f
 len:y.2.1.length<=N+1
 wk:y.2.2.1.length<=1
 sol:uz l V b0 y.2.2.2.2.2
theorem MH (h:∀ f∈fs,Gd l f) {f:cb} (hf:Gd l f) (i:Nat):∀ g∈fs.set i f,Gd l g:=fun g hg=>by
 rcases List.mem_or_eq_of_mem_set hg with hg | rfl
 ·exact h g hg
 ·exact hf
theorem HS (h:∀ f∈fs,Gd l f) {n:Nat} (hn:n<l.length):∀ g∈fs++[cb.mk (rk l n) false 0 [] []],Gd l g:=fun g hg=>by
 rcases dw.1 hg with hg | hg
 ·exact h g hg
 ·rw [dF.1 hg];exact⟨⟨n,hn,rfl⟩,sB _,by show (0:Int)<=1000000; omega,bY _,rfl,fun k O=>absurd O fu⟩
theorem Ka (C:bM l) (hD:Fc l (uf b0) V) (hb0:Rm b0.i.length) {s:az} (hs:uz l V b0 s) (hb:lq l b) (hf:∀ f∈fs,Gd l f) (h0:0<fs.length) (hlen:fs.length<=900) :
  Ok (pS vv s b fs []) (IJ l V b0 b fs.length):=by
 have hl:=C.high;have I:JU b.s:=(hb.rm hl).2.2;have hw:IntKind.i64.wrap ((fs.length:Int)-1)=((fs.length-1:Nat):Int):=by rw [lU (by omega) (by omega)]; omega
 have hlast:=cH (l:=fs) (i:=fs.length-1) (by omega);have hmem:=aD hlast;generalize fs[fs.length-1]=f at hlast hmem;have hF:=hf f hmem;obtain⟨n,hn,hkey⟩:=hF.key;have hi:=cH hn;generalize l[n]=r at hi;have lv0:yp l b b:=⟨hb,rfl,rfl⟩;have htake:∀ g∈fs.take (fs.length-1),Gd l g:=fun g hg=>hf g (y4 hg);have hru:=hs.rules;have hr3:=hF.reads;have hsm:=hF.same;unfold pS;refine aG (yx (hb.rm hl).1 (hb.rm hl).2.1) (aG (xT hf (by omega)) ?_);rw [hw];refine aG (by rw [bn]; exact hlast) (aG (uW (by omega)) (aG (hb.find hl _) ?_));unfold oV;refine ar (fun hrun=>?_) (fun hrun=>?_)
 ·obtain⟨t,ht,hcase⟩:∃ t,fh l (rk l n) f.q=some t/\((r.g.length<=f.q.length/\t=⟨true,db (wz r (f.q.take r.g.length)),⟨0,⟨#[]⟩⟩⟩)∨∃ x,r.g[f.q.length]? = some x/\t=⟨false,⟨#[]⟩,uD l x f.q⟩):=by
   rcases gD f.q.length r.g.length with h1 | h1
   ·exact⟨_,Dx C hi (cH h1),.inr ⟨_,cH h1,rfl⟩⟩
   ·exact⟨_,A5 C hi h1,.inl ⟨h1,rfl⟩⟩
  refine aG (by rw [hru,hkey]; exact ht) ?_;unfold oT;rcases hcase with⟨_,rfl⟩|⟨x,hx,rfl⟩
  ·simp only [cond_true];obtain⟨m,hm1,hm2⟩:=yD C hi (ls:=f.q.take r.g.length) (by rw [eS]; omega);obtain⟨q,q1,q2,q3,q4⟩:=Jh hb hl hn (v:=db (wz r (f.q.take r.g.length))) (by rw [hm1]; exact CO hm2) hr3 hF.good;have hput:nH b.s q=some (sm b.s q):=EQ hb.recsA (hb.rm hl).1.1 (by have:=q2.reads; unfold Rm; omega);have hj2:Ok (jQ s b fs f (fs.take (fs.length-1)) (db (wz r (f.q.take r.g.length))) false) (IJ l V b0 b fs.length):=by
    unfold jQ;simp only [cond_false];refine aG (by rw [hkey]; exact q1) (aG hput (ae ⟨⟨hb.put q2,rfl,rfl⟩,htake,?_,cm _,hs⟩));show (fs.take (fs.length-1)).length<=fs.length+1;rw [eS]; omega
   have hrl:=hb.nrec;rw [decide_eq_false (by omega)];exact ar (fun _=>hj2) (fun _=>hj2)
  ·simp only [cond_false];have hlt:=bh hx;have h3:=(C.each n r hi).asks;obtain⟨_,hg⟩:=rF C hi hx f.q;have hgood:kI l (uD l x f.q):=by
    rcases hg with⟨_,c,hc,_,e4⟩|⟨_,j,hj,_,e4⟩
    ·exact .inl ⟨c,hc,e4⟩
    ·exact .inr ⟨j,by have:=CV hn; omega,e4⟩
   refine ai (Jg hl hb (by omega) hgood) fun y hy=>?_;refine ar (fun h1=>?_) (fun _=>ar (fun _=>?_) (fun _=>ar (fun _=>?_) (fun _=>?_)))
   ·obtain⟨m,hm,e⟩:=hy (by simpa using h1);refine bC (dk (by simp; omega)) (ae ⟨lv0,?_,?_,bY _,hs⟩)
    ·have e:uD l x f.q=rk l m:=e;show ∀ g∈fs++[cb.mk (uD l x f.q) false 0 [] []],Gd l g;rw [e]; exact HS hf hm
    ·show (fs++[_]).length<=_;rw [bk]; exact cm _
   ·exact ae ⟨lv0,hf,Bd _,bY _,hs⟩
   ·exact ae ⟨lv0,hf,Bd _,bY _,hs⟩
   ·refine bC (dk (by simp; omega)) (ai (Ej C hD hb0 hs hb hgood) fun z hz=>bC (dk (by simp; omega)) ?_);have hnew:Gd l (cb.mk f.d f.y f.s1 (f.v++[uD l x f.q]) (f.q++[z.1])):=by
     refine⟨hF.key,hF.at0,hF.at1,?_,?_,?_⟩
     ·show (f.v++[_]).length<=3;rw [bk]; simp; omega
     ·show (f.q++[_]).length=(f.v++[_]).length;rw [bk,bk,hsm]; rfl
     ·intro k O;rcases dw.1 O with O | O
      ·exact hF.good k O
      ·rw [dF.1 O]; exact hgood
    exact ae ⟨lv0,MH hf hnew _,by show (fs.set _ _).length<=_; rw [HC]; exact Bd _,bY _,hz⟩
 ·refine ai (Pa I b.r f.d) fun g ⟨hg1,hg2,hg3⟩=>aG (Ep I (by omega)) ?_;have hclen:(ic b.s g g).length<=1000000:=by have:=tO I g g; omega
  have hgm:Rm g.length:=by unfold Rm; omega
  have si:∀ i f',Gd l f'->(∀ g∈fs.set i f',Gd l g)/\(fs.set i f').length<=fs.length+1:=fun i f' hf'=>⟨MH hf hf' i,by rw [HC]; exact Bd _⟩;have hrun1:Gd l (cb.mk f.d true 0 f.v f.q):=⟨hF.key,sB _,by show (0:Int)<=1000000; omega,hF.reads,hF.same,hF.good⟩;have hj5:∀ q:Bool,(q=false->(cR b.s f.d).2=true)->Ok (jR vv s [] b fs f (fs.take (fs.length-1)) g (ic b.s g g) q) (IJ l V b0 b fs.length):=fun q hq=>by
   unfold jR;refine ar (fun _=>ae ⟨lv0,(si _ _ hrun1).1,(si _ _ hrun1).2,bY _,hs⟩) (fun _=>?_);refine ar (fun _=>?_) (fun hat=>?_)
   ·refine aG (B0 (hb.rm hl).1 (hb.rm hl).2.1 hgm false) (ae ⟨⟨hb.mark g false (fun e=>by cases e),rfl,rfl⟩,htake,?_,bY _,hs⟩);show (fs.take (fs.length-1)).length<=fs.length+1;rw [eS]; omega
   ·have hat:=of_decide_eq_false hat;have hat0:=hF.at0;obtain⟨a,ha⟩:∃ a:Nat,f.s1=a:=⟨f.s1.toNat,by omega⟩;have hlt:a<(ic b.s g g).length:=by omega
    have hc:=cH hlt;generalize (ic b.s g g)[a]=c at hc;have hgood:=hb.rdGood (Bl (aD hc));refine aG (by rw [ha,bn]; exact hc) (ai (Jg hl hb (by omega) hgood) fun y hy=>?_);refine ar (fun h1=>?_) (fun _=>ar (fun _=>?_) (fun _=>ar (fun _=>?_) (fun _=>?_)))
    ·obtain⟨m,hm,e⟩:=hy (by simpa using h1);refine bC (dk (by simp; omega)) (ae ⟨lv0,?_,?_,bY _,hs⟩)
     ·show ∀ g∈fs++[cb.mk c.k1 false 0 [] []],Gd l g;rw [e]; exact HS hf hm
     ·show (fs++[_]).length<=_;rw [bk]; exact cm _
    ·exact ae ⟨lv0,hf,Bd _,bY _,hs⟩
    ·exact ae ⟨lv0,hf,Bd _,bY _,hs⟩
    ·refine aG (hb.find hl _) (ai (Q:=fun z:Int×az=>uz l V b0 z.2) (by unfold vE; exact ai (Cn C hD hb0 hs hb hgood) fun z hz=>ae hz) fun z hz=>?_);refine ar (fun _=>?_) (fun _=>?_)
     ·have hw1:IntKind.i64.wrap (f.s1+1)=f.s1+1:=lU (by omega) (by omega);have hf':Gd l (cb.mk f.d f.y (IntKind.i64.wrap (f.s1+1)) f.v f.q):=⟨hF.key,by show 0<=IntKind.i64.wrap (f.s1+1); rw [hw1]; omega,by show IntKind.i64.wrap (f.s1+1)<=_; rw [hw1]; omega,hF.reads,hF.same,hF.good⟩;exact ae ⟨lv0,(si _ _ hf').1,(si _ _ hf').2,bY _,hz⟩
     ·refine aG (im _) (ar (fun hcy=>?_) (fun _=>?_))
      ·have hd:true=true->∀ q∈g,rI q=true:=fun _ q hq=>by
        rcases hg3 with⟨_,rfl⟩|⟨_,h⟩
        ·rw [dF.1 hq]; exact hcy
        ·exact (L7 (h q hq)).1
       exact aG (B0 (hb.rm hl).1 (hb.rm hl).2.1 hgm true) (ae ⟨⟨hb.mark g true hd,rfl,rfl⟩,(si _ _ hrun1).1,(si _ _ hrun1).2,bY _,hz⟩)
      ·exact ae ⟨lv0,(si _ _ hrun1).1,(si _ _ hrun1).2,bY _,hz⟩
  have hj6:∀ q:Bool,Ok (jS vv s [] b fs f (fs.take (fs.length-1)) (cR b.s f.d).2 (cR b.s f.d).1.w g (ic b.s g g) q) (IJ l V b0 b fs.length):=fun q=>by
   unfold jS;refine ar (fun _=>ae ⟨lv0,htake,?_,bY _,hs⟩) (fun _=>ar (fun _=>hj5 true (fun e=>by cases e)) (fun hh=>hj5 _ (fun _=>by simpa using hh)));show (fs.take (fs.length-1)).length<=fs.length+1;rw [eS]; omega
  exact ar (fun _=>hj6 _) (fun _=>hj6 _)
end
end
section
open Go.Lib hiding intOf
section
variable {l:List aX} {V:Nat->ByteArray} {H:Int->ah->ByteArray} {b b' b0:ao} {P P':ah->Prop}
end
end
section
open Go.Lib hiding intOf
section
variable {l:List aX} {V:Nat->ByteArray} {H:Int->ah->ByteArray} {b0 b:ao}
end
end
section
open Go.Lib hiding intOf
variable {N:Nat} {t:fj}
section
variable {l:List aX} {b:ao} {V:Nat->ByteArray}
structure HQ (l:List aX) (b:ao) (N:Nat) (t:fj):Prop where
 rules:t.a=l
 lv:yp l b t.b
 goals:∀ k∈t.i1,kI l k
 ng:t.i1.length<=32
 fr:∀ f∈t.r1,Gd l f
 len:t.r1.length<=N
 ran:t.z.length<=N
theorem Cv (C:bM l) (hN:N<=100) (h:HQ l b N t):o5 t=some t:=by
 have hl:=C.high;have h1:=h.ng;have h2:=h.len;have h3:=h.ran;unfold o5;rw [h.rules,Fk C,ad,yx (h.lv.ok.rm hl).1 (h.lv.ok.rm hl).2.1,ad,dk (by simp; omega),xT h.fr (by omega),dk (by simp; omega)];rw [<- h.rules]; rfl
theorem Od (C:bM l) (hD:Fc l (uf b) V) (hb:lq l b) {s:az} (hs:uz l V b s) (hN:N<=90) (h:HQ l b N t):Ok (tC vv s t) fun y=>HQ l b (N+1) y.1/\uz l V b y.2.2.2:=by
 have hl:=C.high;have hb0:=(hb.rm hl).2.1;have h1:=h.ng;have h2:=h.len;have h3:=h.ran;have up:HQ l b (N+1) t:=⟨h.rules,h.lv,h.goals,h.ng,h.fr,by omega,by omega⟩;unfold tC;refine aG (Cv C (by omega) h) (ar (fun h0=>ar (fun _=>ae ⟨up,hs⟩) (fun hg=>?_)) (fun h0=>?_))
 ·have hg0:0<t.i1.length:=by
   rcases y6 t.i1.length with e | e
   ·rw [e] at hg; cases hg
   ·exact e
  have O:=h.goals _ (iK hg0);refine aG (by have:=bq hg0; exact this) (aG (by have:=Ak (xs:=t.i1) (a:=1) (by omega); exact this) (ai (EJ hl h.lv.ok (by simp) O) fun y hy=>?_));have hg1:∀ k∈t.i1.drop 1,kI l k:=fun k O=>h.goals k (A8 O);have hg2:(t.i1.drop 1).length<=32:=by rw [mO]; omega
  refine ar (fun hy1=>?_) (fun _=>ae ⟨⟨h.rules,h.lv,hg1,hg2,h.fr,up.len,up.ran⟩,hs⟩);obtain⟨n,hn,e⟩:=hy hy1;refine ae ⟨⟨h.rules,h.lv,hg1,hg2,?_,by show 1<=N+1; omega,up.ran⟩,hs⟩;show ∀ f∈[cb.mk t.i1[0] false 0 [] []],Gd l f;rw [e];exact HS (fs:=[]) (fun f hf=>absurd hf fu) hn
 ·have hs0:0<t.r1.length:=by
   rcases y6 t.r1.length with e | e
   ·rw [e] at h0; cases h0
   ·exact e
  refine ai (Ka C hD hb0 hs h.lv.ok h.fr hs0 (by omega)) fun y hy=>ar (fun _=>ae ⟨up,hy.sol⟩) (fun _=>?_);have hw:=hy.wk;have hln:=hy.len;refine bC (dk (by omega)) (ae ⟨⟨h.rules,⟨hy.lv.ok,hy.lv.rev.trans h.lv.rev,hy.lv.ins.trans h.lv.ins⟩,h.goals,h.ng,hy.fr,by show y.2.1.length<=_; omega,?_⟩,hy.sol⟩);show (t.z++y.2.2.1).length<=_;rw [bk]; omega
def Tl (l:List aX) (V:Nat->ByteArray) (b:ao) (k:Nat):Int×(List aX)×Int×(List bc)×(List ay)×(List ah)×(List cb)×(List ah)×(List aX)×Int×(List bc)×(List ay)×(List (ah×ByteArray))×(List (ah×(List ah)))->Prop
 | (n,t1,t2,t3,t4,t5,t6,t7,g1,g2,g3,g4,g5,g6)=>n=(k:Int)/\HQ l b k (fj.mk t1 (ao.mk t2 t3 t4) t5 t6 t7)/\uz l V b (az.mk g1 (ao.mk g2 g3 g4) g5 g6)
def To (l:List aX) (b:ao):Fl (Int×(List aX)×Int×(List bc)×(List ay)×(List ah)×(List cb)×(List ah)) (fj×Int×Int)->Prop
 | .go (n,t1,t2,t3,t4,t5,t6,t7)=>HQ l b 90 (fj.mk t1 (ao.mk t2 t3 t4) t5 t6 t7)
 | .out y=>HQ l b 90 y.1
theorem HQ.le {M:Nat} (h:HQ l b N t) (hm:N<=M):HQ l b M t:=⟨h.rules,h.lv,h.goals,h.ng,h.fr,cN h.len hm,cN h.ran hm⟩
theorem MC (C:bM l) (hb:lq l b) (h:HQ l b 0 t) (hbase:t.b=b) {most:Int} (hm:most<=30):Ok (uS vv t most) fun y=>HQ l b 90 y.1:=by
 have hl:=C.high;have hD:=Lf (uf b) C;have hst:t.r1=[]:=DH (Nat.le_zero.1 h.len);have hru:=h.rules;unfold uS;refine aG (Cv C (by omega) h) (ar (fun _=>ae (h.le (by omega))) (fun _=>?_));have hvalid:rZ t=some true:=by
  unfold rZ;rw [hru,Fh C h.lv.ok h.goals h.ng,ad,hst];rw [show ((0:Int)==0)=true from rfl,cond_true];have:k9 l t.b []=some true:=by
   unfold k9;rw [pD (r:=Fl.go ()) rfl]; rfl
  rw [this]; rfl
 refine aG hvalid ?_;simp only [dJ,cond_false];refine aG (v:=az.mk t.a t.b [] []) rfl ?_;have hs:uz l (Vd l (uf b)) b (az.mk t.a t.b [] []):=⟨hru,hbase,fun n _ v e=>(by cases e),fun c=>rfl⟩;refine bV (Tl l (Vd l (uf b)) b) (To l b) 30 ⟨rfl,h,hs⟩ ?_ ?_
 ·rintro k ⟨n,t1,t2,t3,t4,t5,t6,t7,g1,g2,g3,g4,g5,g6⟩ O ⟨rfl,q1,q2⟩;dsimp only;unfold sP;refine ar (fun hlt=>?_) (fun _=>ae (q1.le (by omega)));have hlt:=of_decide_eq_true hlt;refine ai (Od C hD hb q2 (by omega) q1) fun y ⟨y1,y2⟩=>ar (fun _=>ae (q1.le (by omega))) (fun _=>ar (fun _=>ae (y1.le (by omega))) (fun _=>?_));exact ae ⟨by omega,cJ (by omega),y1,y2⟩
 ·rintro (⟨n,t1,t2,t3,t4,t5,t6,t7⟩ | y) hr
  ·exact ae hr
  ·exact ae hr
theorem MN (C:bM l) (hb:lq l b) {goals:List ah} (hg:∀ k∈goals,kI l k) (hn:goals.length<=32):∃ t,rY l b goals=some (t,0)/\HQ l b 0 t/\t.b=b:=by
 have ht:HQ l b 0 (fj.mk l b goals [] []):=⟨rfl,⟨hb,rfl,rfl⟩,hg,hn,fun f hf=>absurd hf fu,cm _,cm _⟩;refine⟨_,?_,ht,rfl⟩;unfold rY;rw [Fh C hb hg hn,ad];simp only [show ((0:Int) != 0)=false from rfl,cond_false];rw [Cv C (by omega) ht]; rfl
theorem Da {recs:List ay} (h:Rm recs.length) (k:ah):qH recs k=some (recs.filter fun x=>!jK x.d k):=by
 unfold Rm at h;unfold qH ro;refine gG (ej (xs:=recs) (fun i=>((recs.take i).filter fun x=>!jK x.d k,(i:Int))) rfl (r:=recs.filter fun x=>!jK x.d k) (fun i x hx=>?_) ?_) rfl
 ·have hlt:=bh hx;have hlen:=vX (fun x:ay=>!jK x.d k) recs i;unfold ol oh;dsimp only;rw [dlt hlt,cond_true,bn,hx,ad,cJ (by omega),bX hx,t8];show cond (!jK x.d k) _ _=_;cases e:jK x.d k with
  | true=>simp [e]
  | false =>
   rw [fv,cond_true,dk (by simp only [ip,sg]; omega)];simp [e,gd]
 ·unfold ol;dsimp only;rw [bN,fW]; rfl
theorem lq.filter (h:lq l b) (p:ay->Bool):lq l (ao.mk b.r b.i (b.s.filter p)) :=
 ⟨h.rev,h.ins,h.insA,fun r hr=>h.recs r (oB.1 hr).1,List.Pairwise.sublist List.filter_sublist h.recsA⟩
theorem JZ (C:bM l) (h:HQ l b N t) (hN:N<=1000):Ok (pR t) fun b'=>yp l b b':=by
 have hl:=C.high;have hb:=h.lv.ok;have hlen:=h.len;unfold pR;refine aG (yx (hb.rm hl).1 (hb.rm hl).2.1) ?_;refine bV (fun (k:Nat) (s:Int×List ay)=>s.1=k/\lq l (ao.mk t.b.r t.b.i s.2)) (fun r=>lq l (ao.mk t.b.r t.b.i r)) t.r1.length ⟨rfl,hb⟩ ?_ (fun r hr=>ae ⟨hr,h.lv.rev,h.lv.ins⟩);rintro k ⟨i,recs⟩ O ⟨rfl,g⟩;dsimp only at g ⊢;unfold oS;refine ar (fun hlt=>?_) (fun _=>ae g);have hlt:k<t.r1.length:=by have:=of_decide_eq_true hlt; omega
 refine aG (bq hlt) (aG (im _) (ar (fun _=>?_) (fun _=>ae ⟨hlt,cJ (by omega),g⟩)));have hrl:recs.length<=l.length:=g.nrec;exact aG (Da (by unfold Rm; omega) _) (ae ⟨hlt,cJ (by omega),g.filter _⟩)
end
end
section
open Go.Lib hiding intOf
def B7 (l:List bc):Prop:=l.Pairwise fun a b=>dC a.d b.d<0
def xL (l:List bc) (r:bc):List bc:=(l.filter fun x=>decide (dC x.d r.d<0))++r::(l.filter fun x=>decide (0<dC x.d r.d))
theorem LX {l:List bc} {r x:bc}:x∈xL l r↔x=r∨(x∈l/\x.d≠r.d):=by
 unfold xL;rw [dw,dX,oB,oB];simp only [decide_eq_true_eq];constructor
 ·rintro (⟨h,h1⟩ | h | ⟨h,h1⟩)
  ·exact .inr ⟨h,xq h1⟩
  ·exact .inl h
  ·exact .inr ⟨h,fun e=>by rw [e,AN] at h1; omega⟩
 ·rintro (h | ⟨h,h1⟩)
  ·exact .inr (.inl h)
  ·rcases zK x.d r.d with h2 | h2 | h2
   ·exact .inl ⟨h,h2⟩
   ·exact absurd h2 h1
   ·exact .inr (.inr ⟨h,rM.2 h2⟩)
theorem Ml {l:List bc} (h:B7 l) (r:bc):B7 (xL l r):=by
 unfold B7 xL;rw [uw];refine⟨JN _ h,vT.2 ⟨fun x hx=>?_,JN _ h⟩,fun x hx y hy=>?_⟩
 ·have:=(oB.1 hx).2;simp only [decide_eq_true_eq] at this;exact rM.1 this
 ·have h1:=(oB.1 hx).2;simp only [decide_eq_true_eq] at h1;rcases dX.1 hy with rfl | hy
  ·exact h1
  ·have h2:=(oB.1 hy).2;simp only [decide_eq_true_eq] at h2;exact tj h1 (rM.1 h2)
theorem Ko {l:List bc} {r:bc} (h:B7 l) (hl:Rm l.length) {u:ao} (hrev:IntKind.i64.wrap (u.r+1)=r.x) (g:Int) :
  ((loop (fun s:(List bc)×Bool×Int=>jv u l (fw.mk r.d r.u) s.1 s.2.1 s.2.2) (([]:List bc),false,0)).bind fun q=>gZ u g (fw.mk r.d r.u) q.1 q.2)=gY g (xL l r):=by
 unfold Rm at hl;have hpl:∀ i,((l.take i).filter fun x=>decide (dC x.d r.d<0)).length+((l.take i).filter fun x=>decide (0<dC x.d r.d)).length<=l.length:=fun i=>by
  have h1:∀ m:List bc,(m.filter fun x=>decide (dC x.d r.d<0)).length+(m.filter fun x=>decide (0<dC x.d r.d)).length<=m.length:=by
   intro m
   induction m with
   | nil=>simp
   | cons y m ih =>
    by_cases a:dC y.d r.d<0
    ·rw [E4 (by simpa using a),yi (by simp; omega)]; simp only [ip]; omega
    ·by_cases b:0<dC y.d r.d
     ·rw [yi (by simpa using a),E4 (by simpa using b)]; simp only [ip]; omega
     ·rw [yi (by simpa using a),yi (by simpa using b)]; simp only [ip]; omega
  have:=h1 (l.take i);rw [eS] at this; omega
 have key:Ok ((loop (fun s:(List bc)×Bool×Int=>jv u l (fw.mk r.d r.u) s.1 s.2.1 s.2.2) (([]:List bc),false,0)).bind fun q=>gZ u g (fw.mk r.d r.u) q.1 q.2) fun y=>gY g (xL l r)=some y:=by
  refine bV (fun n t=>n<=l.length/\t.2.2=(n:Int)/\((t.1=l.take n/\t.2.1=false/\∀ x∈l.take n,dC x.d r.d<0)∨(t.1=xL (l.take n) r/\t.2.1=true/\∃ x∈l.take n,¬ dC x.d r.d<0)))
   (fun t=>(t.1=l/\t.2=false/\∀ x∈l,dC x.d r.d<0)∨(t.1=xL l r/\t.2=true)) l.length ⟨bY _,rfl,.inl ⟨rfl,rfl,by simp⟩⟩ (fun n t hn hI=>?_) (fun t ht=>?_)
  ·obtain⟨out,put,i⟩:=t;obtain⟨_,h1,h2⟩:=hI;dsimp only at h1 h2;subst h1;unfold jv;dsimp only;by_cases hi:n<l.length
   ·have hx:l[n]? = some l[n]:=cH hi;obtain⟨x,hxe⟩:∃ x,x=l[n]:=⟨_,rfl⟩;rw [<- hxe] at hx;rw [dlt hi,cond_true,bn,hx,ad,mC,ad];have tk:=bX hx;have hle:=hpl n;rcases h2 with⟨rfl,rfl,h3⟩|⟨rfl,rfl,y,hy,h3⟩
    ·have e0:((l.take n).filter fun x=>decide (dC x.d r.d<0))=l.take n:=E5.2 fun x hx=>by simpa using h3 x hx
     have e1:((l.take n).filter fun x=>decide (0<dC x.d r.d))=[]:=JP.2 fun x hx=>by have:=h3 x hx; simp; omega
     rcases ti x.d r.d with hc | hc | hc
     ·rw [hc];unfold hR hJ hH;dsimp only;simp only [hrev];rw [show ce ((l.take n).length+[x].length)=true from dk (by simp; omega),cJ (by omega)];refine ae ⟨hi,hi,rfl,.inl ⟨tk.symm,rfl,fun z hz=>?_⟩⟩;rw [tk] at hz;rcases dw.1 hz with hz | hz
      ·exact h3 z hz
      ·simp only [dX,fu,or_false] at hz; subst hz; omega
     ·rw [hc];unfold hR hJ hH;dsimp only;simp only [hrev];rw [cJ (by omega)];rw [show ce ((l.take n).length+[r].length)=true from dk (by simp; omega)];refine ae ⟨hi,hi,rfl,.inr ⟨?_,rfl,x,by rw [tk]; simp,by omega⟩⟩;unfold xL;rw [tk,t8,t8,e0,e1];simp [hc]
     ·rw [hc];unfold hR hJ hH;dsimp only;simp only [hrev];rw [cJ (by omega)];rw [show ce ((l.take n).length+[r].length)=true from dk (by simp; omega),show ce ((l.take n++[r]).length+[x].length)=true from dk (by simp; omega)];refine ae ⟨hi,hi,rfl,.inr ⟨?_,rfl,x,by rw [tk]; simp,by omega⟩⟩;unfold xL;rw [tk,t8,t8,e0,e1];simp [hc]
    ·have hyx:dC y.d x.d<0:=by
      obtain⟨j,hj⟩:=nP.1 hy;rw [ub] at hj;split at hj
      ·rename_i hjn;obtain⟨q1,q2⟩:=cu.1 hj;have:=gC.1 h j n q1 hi hjn;rw [q2,<- hxe] at this; exact this
      ·cases hj
     have hc:0<dC x.d r.d:=by
      rw [rM];exact xW (b:=y.d) h3 hyx
     have hc1:dC x.d r.d=1:=by rcases ti x.d r.d with h | h | h <;> omega
     rw [hc1];unfold hR hJ hH;dsimp only;simp only [hrev];rw [cJ (by omega),show ce ((xL (l.take n) r).length+[x].length)=true from dk (by unfold xL; simp only [bk,ip,sg]; omega)];refine ae ⟨hi,hi,rfl,.inr ⟨?_,rfl,y,by rw [tk]; exact oA _ hy,h3⟩⟩;unfold xL;rw [tk,t8,t8];simp [hc1]
   ·have hn2:n=l.length:=by omega
    rw [hn2,bN,cond_false];rw [hn2,fW] at h2;refine ae ?_;rcases h2 with⟨a,b,c⟩|⟨a,b,c⟩
    ·exact .inl ⟨a,b,c⟩
    ·exact .inr ⟨a,b⟩
  ·obtain⟨out,put⟩:=t;dsimp only at ht ⊢;unfold gZ;dsimp only;simp only [hrev];rcases ht with⟨rfl,rfl,h3⟩|⟨rfl,rfl⟩
   ·simp only [fv,cond_true];rw [show ce (out.length+[r].length)=true from dk (by simp; omega)];refine⟨_,rfl,?_⟩;unfold xL;rw [E5.2 fun x hx=>by simpa using h3 x hx,JP.2 fun x hx=>by have:=h3 x hx; simp; omega];rfl
   ·exact⟨_,rfl,rfl⟩
 obtain⟨y,e,e2⟩:=key;exact e.trans e2.symm
end
section
open Go.Lib hiding intOf
variable {d:List Int} {i:Int} {ins:List bc} {most rev:Int}
structure KJ (c:fw):Prop where
 key:∃ n,n<10/\c.d=ia n
 value:c.u.size<=8
theorem yo.le {rev':Int} {x:bc} (h:yo rev x) (hl:rev<=rev'):yo rev' x:=⟨h.key,h.value,h.low,by have:=h.high; omega⟩
section
variable {l:List aX} {b:ao}
theorem uB.le {rev':Int} {r:ay} (h:uB l rev r) (hl:rev<=rev'):uB l rev' r:=⟨h.key,h.value,h.reads,h.good,h.low,h.mid,by have:=h.high; omega,h.cost,h.dirty⟩
theorem lq.rise (h:lq l b) (hr:b.r+1<=1000000) (h1:B7 ins) (h2:∀ x∈ins,yo (b.r+1) x):lq l (ao.mk (b.r+1) ins b.s) :=
 ⟨⟨by have:=h.rev; show 0<=b.r+1; omega,hr⟩,h2,h1,fun r hm=>(h.recs r hm).le (by show b.r<=b.r+1; omega),h.recsA⟩
theorem N2 (h:∀ x∈ins,yo rev x) {x:bc} (hx:yo rev x):∀ y∈xL ins x,yo rev y:=fun y hy=>by
 rcases LX.1 hy with rfl | ⟨hy,_⟩
 ·exact hx
 ·exact h y hy
theorem I9 (h1:B7 ins) (h2:∀ x∈ins,yo rev x):ins.length<=10:=by
 have h3:=qE (AP (f:=bc.d) h1) (m:=(List.range 10).map ia) fun k O=>by
  obtain⟨r,hr,rfl⟩:=kC.1 O;obtain⟨n,hn,e⟩:=(h2 r hr).key;exact kC.2 ⟨n,vS.2 hn,e.symm⟩
 simpa using h3
theorem yq (C:bM l) (h:lq l b) (hr:b.r+1<=1000000) {cs:List fw} (hc:∀ c∈cs,KJ c) (hn:cs.length<=32):Ok (m5 b cs) fun y=>lq l y.1/\y.1.r<=b.r+1:=by
 have hl:=C.high;have hcp:=yx (h.rm hl).1 (h.rm hl).2.1;have hrev:=h.rev;have hw:IntKind.i64.wrap (b.r+1)=b.r+1:=lU (by omega) (by omega);unfold m5;refine aG hcp (aG (F4 h hl) ?_);rw [decide_eq_false (by omega)];simp only [dJ,cond_false];refine aG (dL (r:=Fl.go ()) cs.length (fun k O=>?_) ?_) ?_
 ·obtain⟨n,hn,e⟩:=(hc _ (iK O)).key;unfold l7;rw [dlt O,cond_true,bq O,ad,e,yt (by omega),ad];simp only [dJ,cond_false];rw [qt,ad,cJ (by omega)]; rfl
 ·unfold l7;rw [bN]; rfl
 show Ok (l5 cs b) _;unfold l5;refine aG (dL (r:=Fl.go ()) cs.length (fun k O=>?_) ?_) ?_
 ·have:=(hc _ (iK O)).value;unfold l6;rw [dlt O,cond_true,bq O,ad,decide_eq_false (by omega),cJ (by omega)]; rfl
 ·unfold l6;rw [bN]; rfl
 show Ok (l3 cs b) _;unfold l3;refine aG hcp ?_;refine bV (fun (k:Nat) (s:Bool×Int×List bc)=>s.2.1=k/\B7 s.2.2/\(∀ x∈s.2.2,yo (b.r+1) x)/\k<=cs.length) (fun r=>B7 r.2/\∀ x∈r.2,yo (b.r+1) x) cs.length ⟨rfl,h.insA,fun x hx=>(h.ins x hx).le (by omega),bY _⟩ ?_ ?_
 ·rintro k ⟨ch,g,ins⟩ O ⟨rfl,h1,h2,_⟩;dsimp only at h1 h2 ⊢;unfold oO;refine ar (fun hlt=>?_) (fun _=>ae ⟨h1,h2⟩);have hlt:k<cs.length:=by have:=of_decide_eq_true hlt; omega
  have hcO:=hc _ (iK hlt);refine aG (bq hlt) ?_;generalize cs[k]=c at hcO;rw [cJ (by omega)];refine aG (Ak (by omega)) ?_;have hd:(cs.drop (k+1)).length<=32:=by rw [mO]; omega
  have hj2:∀ ch' ins',B7 ins'->(∀ x∈ins',yo (b.r+1) x)->Ok (kZ (k:Int) ch' ins') fun y=>match y with
    | .go s=>k<cs.length/\(s.2.1=((k+1:Nat):Int)/\B7 s.2.2/\(∀ x∈s.2.2,yo (b.r+1) x)/\k+1<=cs.length)
    | .out r=>B7 r.2/\∀ x∈r.2,yo (b.r+1) x:=fun ch' ins' q1 q2=>ae ⟨hlt,cJ (by omega),q1,q2,hlt⟩
  refine bV (fun (i:Nat) (s:Bool×Int)=>s.2=i/\i<=(cs.drop (k+1)).length) (fun _=>True) (cs.drop (k+1)).length ⟨rfl,bY _⟩ ?_ ?_
  ·rintro i ⟨la,q⟩ hi ⟨rfl,_⟩;dsimp only;unfold oN;refine ar (fun hlt2=>?_) (fun _=>ae trivial);have hlt2:i<(cs.drop (k+1)).length:=by have:=of_decide_eq_true hlt2; omega
   refine aG (bq hlt2) (ar (fun _=>ae ⟨hlt2,cJ (by omega),hlt2⟩) (fun _=>ae ⟨hlt2,cJ (by omega),hlt2⟩))
  ·intro la _;unfold pO;refine ar (fun _=>(hj2 _ _ h1 h2).mono fun y hy=>by cases y <;> exact hy) (fun _=>aG (I7 (h.rm hl).2.1 _) (ar (fun _=>(hj2 _ _ h1 h2).mono fun y hy=>by cases y <;> exact hy) (fun _=>?_)));have hil:=I9 h1 h2;have hput:=Ko (r:=bc.mk c.d c.u (b.r+1)) h1 (by unfold Rm; omega) (u:=b) hw (k:Int);have hput2:((loop (fun s:(List bc)×Bool×Int=>jv b ins c s.1 s.2.1 s.2.2) (([]:List bc),false,0)).bind fun q=>gZ b (k:Int) c q.1 q.2)=gY (k:Int) (xL ins (bc.mk c.d c.u (b.r+1))):=hput;rw [hput2];unfold gY;exact (hj2 _ _ (Ml h1 _) (N2 h2 ⟨hcO.key,hcO.value,by show 0<=b.r+1; omega,sB _⟩)).mono fun y hy=>by cases y <;> exact hy
 ·rintro⟨ch,ins⟩ ⟨h1,h2⟩;dsimp only at h1 h2 ⊢;have hil:=I9 h1 h2;unfold m6;rw [hw];refine ar (fun _=>ae ⟨h,by show b.r<=b.r+1; omega⟩) (fun _=>?_);rw [decide_eq_false (by omega),decide_eq_false (by omega)];exact ae ⟨h.rise hr h1 h2,sB _⟩
theorem J1 (hd:cD d i):Ok (rP ⟨d,i⟩) fun y=>KJ y.1/\cD y.2.L y.2.s1:=by
 unfold rP;refine ai (eE hd (by omega) (by omega)) fun y ⟨y1,y2,d1⟩=>?_;obtain⟨c,hc⟩:∃ c:Nat,y.1=c:=⟨y.1.toNat,by omega⟩;rw [hc];refine aG (yP (by omega)) (ai (Ol d1 (by simp) (by simp)) fun w ⟨w1,d2⟩=>ae ⟨⟨⟨c,by omega,rfl⟩,?_⟩,d2⟩);have:∀ s∈[(ByteArray.mk #[48]),(ByteArray.mk #[49]),(ByteArray.mk #[50]),(ByteArray.mk #[51]),(ByteArray.mk #[55]),(ByteArray.mk #[49,48,48]),cr,(ByteArray.mk #[120]),(ByteArray.mk #[49,54]),(ByteArray.mk #[49])],s.size<=8:=by decide
 exact this _ w1
theorem yu (hd:cD d i) (h1:0<=most) (h2:most<=30):Ok (lD ⟨d,i⟩ most) fun y=>(∀ c∈y.1,KJ c)/\(y.1.length:Int)<=most/\cD y.2.L y.2.s1:=by
 unfold lD;rw [lU (by omega) (by omega)];refine ai (eE hd (by omega) (by omega)) fun y ⟨y1,y2,d1⟩=>?_;refine bV (fun (k:Nat) (s:(List fw)×Int×(List Int)×Int)=>(∀ q∈s.1,KJ q)/\s.1.length=k/\s.2.1=y.1-k/\0<=s.2.1/\cD s.2.2.1 s.2.2.2) (fun r=>(∀ q∈r.1,KJ q)/\(r.1.length:Int)<=most/\cD r.2.1 r.2.2) 31 ⟨fun q hq=>absurd hq fu,rfl,by simp,y1,d1⟩ ?_ (fun r hr=>ae hr);rintro k ⟨gs,c,d,i⟩ O ⟨g1,g2,g3,g3',g4⟩;dsimp only at g1 g2 g3 g3' g4 ⊢;unfold oH;refine ar (fun hc=>?_) (fun _=>ae ⟨g1,by show (gs.length:Int)<=most; omega,g4⟩);have hc:=of_decide_eq_true hc;have hw:IntKind.i64.wrap (c-1)=c-1:=lU (by omega) (by omega);refine ai (J1 g4) fun z ⟨z1,z2⟩=>bC (dk (by simp; omega)) (ae ⟨by omega,?_,by rw [bk,g2]; rfl,?_,?_,z2⟩)
 ·intro q hq;rcases dw.1 hq with hq | hq
  ·exact g1 q hq
  ·rw [dF.1 hq]; exact z1
 ·show IntKind.i64.wrap (c-1)=_;rw [hw]; omega
 ·show 0<=IntKind.i64.wrap (c-1);rw [hw]; omega
theorem JY (x y:ay):Ok (pX x y) fun _=>True:=by
 unfold pX qI;refine aG rfl (aG rfl (ar (fun _=>ae trivial) (fun _=>ar (fun _=>ae trivial) (fun _=>aG (mC _ _) (ae trivial)))))
theorem Mc {recs:List ay} (h:recs.length<=1000):Ok (r8 recs) fun o=>o.length<=recs.length:=by
 unfold r8;refine bV (fun (k:Nat) (s:List ay×Int)=>s.2=k/\s.1.length=k/\k<=recs.length) (fun o=>o.length<=recs.length) recs.length ⟨rfl,rfl,bY _⟩ ?_ (fun o ho=>ae ho);rintro k ⟨out,g⟩ O ⟨rfl,hlen,_⟩;dsimp only at hlen ⊢;unfold p9;refine ar (fun hlt=>?_) (fun _=>ae (by show out.length<=_; omega));have hlt:k<recs.length:=by have:=of_decide_eq_true hlt; omega
 refine aG (bq hlt) ?_;refine bV (fun (i:Nat) (s:Int)=>s=i/\i<=out.length) (fun r=>∃ i:Nat,r=i/\i<=out.length) out.length ⟨rfl,bY _⟩ ?_ ?_
 ·rintro i _ hi ⟨rfl,_⟩;unfold p8;refine ar (fun hlt2=>?_) (fun _=>ae ⟨i,rfl,hi⟩);have hlt2:i<out.length:=by have:=of_decide_eq_true hlt2; omega
  refine aG (bq hlt2) (ai (JY _ _) fun y _=>ar (fun _=>ae ⟨hlt2,cJ (by omega),hlt2⟩) (fun _=>ae ⟨i,rfl,hi⟩))
 ·rintro _ ⟨i,rfl,hi⟩;unfold pZ pY;refine aG (uW hi) (aG (Ak hi) ?_);have e1:(out.take i).length=i:=by rw [eS]; omega
  have e2:(out.drop i).length=out.length-i:=mO;refine bC (dk (by simp; omega)) (bC (dk (by simp; omega)) (bC (dk (by simp; omega)) (ae ⟨hlt,cJ (by omega),?_,hlt⟩)));simp only [qU,bk,ip,sg];omega
theorem MR {recs:List ay} (h:recs.length<=1000):Ok (r7 recs) fun _=>True:=by
 unfold r7;refine bV (fun (k:Nat) (s:Int×Int)=>s.2=k/\k<=recs.length) (fun _=>True) recs.length ⟨rfl,bY _⟩ ?_ (fun r _=>ae trivial);rintro k ⟨n,g⟩ O ⟨rfl,_⟩;dsimp only;unfold pW;refine ar (fun hlt=>?_) (fun _=>ae trivial);have hlt:k<recs.length:=by have:=of_decide_eq_true hlt; omega
 exact aG (bq hlt) (aG rfl (ae ⟨hlt,cJ (by omega),hlt⟩))
theorem Lk (C:bM l) (h:lq l b) {budget:Int} (h1:0<=budget) (h2:budget<=1000):Ok (r6 b budget []) fun y=>yp l b y.1:=by
 have hl:=C.high;have hnr:=h.nrec;unfold r6;refine aG (F4 h hl) ?_;rw [decide_eq_false (by omega),decide_eq_false (by omega)];simp only [dJ,cond_false];refine aG (yx (h.rm hl).1 (h.rm hl).2.1) (ai (Mc (by omega)) fun o ho=>?_);refine bV (fun (k:Nat) (s:List ah×Int×List ay)=>s.2.1=k/\k<=o.length/\s.1.length<=k/\lq l (ao.mk b.r b.i s.2.2)) (fun r=>lq l (ao.mk b.r b.i r.2)) o.length ⟨rfl,bY _,bY _,h⟩ ?_ (fun r hr=>ae ⟨hr,rfl,rfl⟩);rintro k ⟨gone,g,recs⟩ O ⟨rfl,_,hg,hb⟩;dsimp only at hg hb ⊢;have hrl:recs.length<=l.length:=hb.nrec;unfold pV;refine ar (fun hlt=>?_) (fun _=>ae hb);have hlt:k<o.length:=by have:=of_decide_eq_true hlt; omega
 refine aG (bq hlt) (ai (MR (by omega)) fun t _=>?_);have hj3:∀ q,Ok (lb gone (k:Int) recs o[k] q) fun y=>match y with
   | .go s=>k<o.length/\(s.2.1=((k+1:Nat):Int)/\k+1<=o.length/\s.1.length<=k+1/\lq l (ao.mk b.r b.i s.2.2))
   | .out r=>lq l (ao.mk b.r b.i r.2):=fun q=>by
  unfold lb ne;refine ar (fun _=>aG (Da (by unfold Rm; omega) _) (bC (dk (by simp; omega)) (ae ⟨hlt,cJ (by omega),hlt,by rw [bk]; simp; omega,hb.filter _⟩))) (fun _=>ae ⟨hlt,cJ (by omega),hlt,by show gone.length<=k+1; omega,hb⟩)
 exact ar (fun _=>aG (AX (by unfold Rm; simp) _) ((hj3 _).mono fun y hy=>by cases y <;> exact hy)) (fun _=>(hj3 _).mono fun y hy=>by cases y <;> exact hy)
theorem GR (C:bM l) (h:lq l b) (hd:cD d i) (h1:0<=most) (h2:most<=1000) (h3:b.r<=1000):Ok (qC ⟨d,i⟩ l b most) fun y=>lq l y.1/\y.1.r<=b.r+most/\cD y.2.L y.2.s1:=by
 unfold qC;rw [lU (by omega) (by omega)];refine ai (eE hd (by omega) (by omega)) fun y ⟨y1,y2,d1⟩=>?_;refine bV (fun (k:Nat) (s:Int×(List Int)×Int×Int×(List bc)×(List ay))=>s.1=y.1-k/\0<=s.1/\cD s.2.1 s.2.2.1/\lq l (ao.mk s.2.2.2.1 s.2.2.2.2.1 s.2.2.2.2.2)/\s.2.2.2.1<=b.r+k) (fun r=>lq l (ao.mk r.1 r.2.1 r.2.2.1)/\r.1<=b.r+most/\cD r.2.2.2.1 r.2.2.2.2) 2000 ⟨by simp,y1,d1,h,by show b.r<=_; simp⟩ ?_ (fun r hr=>ae hr);rintro k ⟨c,d,i,rev,ins,recs⟩ O ⟨g1,g2,g3,g4,g5⟩;dsimp only at g1 g2 g3 g4 g5 ⊢;unfold rc;refine ar (fun hc=>?_) (fun _=>ae ⟨g4,by show rev<=_; omega,g3⟩);have hc:=of_decide_eq_true hc;have hw:IntKind.i64.wrap (c-1)=c-1:=lU (by omega) (by omega);have hj2:∀ {d i rev' ins' recs'},cD d i->lq l (ao.mk rev' ins' recs')->rev'<=rev+1->Ok (eX c d i rev' ins' recs') fun y'=>match y' with
   | .go s=>k<2000/\(s.1=y.1-((k+1:Nat):Int)/\0<=s.1/\cD s.2.1 s.2.2.1/\lq l (ao.mk s.2.2.2.1 s.2.2.2.2.1 s.2.2.2.2.2)/\s.2.2.2.1<=b.r+((k+1:Nat):Int))
   | .out r=>lq l (ao.mk r.1 r.2.1 r.2.2.1)/\r.1<=b.r+most/\cD r.2.2.2.1 r.2.2.2.2:=by
  intro d i rev' ins' recs' q1 q2 q3;unfold eX;rw [hw];exact ae ⟨by omega,by show c-1=_; omega,by show 0<=c-1; omega,q1,q2,by show rev'<=_; omega⟩
 have hL:∀ {d i} {b':ao},cD d i->yp l (ao.mk rev ins recs) b'->Ok (eX c d i b'.r b'.i b'.s) fun y'=>match y' with
   | .go s=>k<2000/\(s.1=y.1-((k+1:Nat):Int)/\0<=s.1/\cD s.2.1 s.2.2.1/\lq l (ao.mk s.2.2.2.1 s.2.2.2.2.1 s.2.2.2.2.2)/\s.2.2.2.1<=b.r+((k+1:Nat):Int))
   | .out r=>lq l (ao.mk r.1 r.2.1 r.2.2.1)/\r.1<=b.r+most/\cD r.2.2.2.1 r.2.2.2.2:=fun q1 q2=>hj2 q1 q2.ok (by have:=q2.rev; rw [this]; show rev<=rev+1; omega)
 refine ai (eE g3 (by omega) (by omega)) fun w ⟨w1,w2,d2⟩=>?_;have hj4:∀ q,Ok (kh l c rev ins recs w q) fun y'=>match y' with
   | .go s=>k<2000/\(s.1=y.1-((k+1:Nat):Int)/\0<=s.1/\cD s.2.1 s.2.2.1/\lq l (ao.mk s.2.2.2.1 s.2.2.2.2.1 s.2.2.2.2.2)/\s.2.2.2.1<=b.r+((k+1:Nat):Int))
   | .out r=>lq l (ao.mk r.1 r.2.1 r.2.2.1)/\r.1<=b.r+most/\cD r.2.2.2.1 r.2.2.2.2:=fun q=>by
  unfold kh;refine ar (fun _=>?_) (fun _=>ar (fun _=>?_) (fun _=>ar (fun _=>?_) (fun _=>?_)))
  ·refine ai (yu d2 (by omega) (by omega)) fun z ⟨z1,z2,d3⟩=>ai (yq C g4 (by show rev+1<=1000000; omega) z1 (by omega)) fun u ⟨u1,u2⟩=>hj2 d3 u1 u2
  ·refine ai (CM C d2 (by omega) (by omega)) fun z ⟨z1,z2,d3⟩=>?_;obtain⟨t,ht,ht2,ht3⟩:=MN C g4 z1 z2;refine aG ht ?_;unfold rb;simp only [show ((0:Int)==0)=true from rfl,cond_true];refine ai (eE d3 (by omega) (by omega)) fun u ⟨u1,u2,d4⟩=>ai (MC C g4 ht2 ht3 (by omega)) fun t2 ht4=>ai (JZ C ht4 (by omega)) fun b2 hb2=>hL d4 hb2
  ·refine ai (eE d2 (by omega) (by omega)) fun z ⟨z1,z2,d3⟩=>ar (fun _=>?_) (fun _=>hL d3 ⟨g4,rfl,rfl⟩);exact ai (eE d3 (by omega) (by omega)) fun u ⟨u1,u2,d4⟩=>ai (Lk C g4 u1 (by omega)) fun v hv=>hL d4 hv
  ·exact ai (CM C d2 (by omega) (by omega)) fun z ⟨z1,z2,d3⟩=>ai (Db C g4 z1 z2) fun u hu=>hL d3 hu
 exact ar (fun _=>(hj4 _).mono fun y hy=>by cases y <;> exact hy) (fun _=>ar (fun _=>(hj4 _).mono fun y hy=>by cases y <;> exact hy) (fun _=>(hj4 _).mono fun y hy=>by cases y <;> exact hy))
end
theorem Ff (hd:cD d i) (h1:0<=most) (h2:most<=900):Ok (qB ⟨d,i⟩ most) fun y=>bM y.1/\lq y.1 y.2.1/\y.2.1.r<=most+1/\cD y.2.2.L y.2.2.s1:=by
 unfold qB;refine ai (MB hd) fun y ⟨C,d1⟩=>ai (yu d1 (by omega) (by omega)) fun z ⟨z1,z2,d2⟩=>?_;have h0:lq y.1 (ao.mk 0 [] []):=⟨⟨by show (0:Int)<=0; omega,by show (0:Int)<=1000000; omega⟩,fun x hx=>absurd hx fu,sD,fun x hx=>absurd hx fu,sD⟩;refine ai (yq C h0 (by show (0:Int)+1<=1000000; omega) z1 (by omega)) fun u ⟨u1,u2⟩=>?_;have u2:u.1.r<=0+1:=u2;exact ai (GR C u1 d2 h1 (by omega) (by show u.1.r<=1000; omega)) fun v ⟨v1,v2,d3⟩=>ae ⟨C,v1,by have v2:v.1.r<=u.1.r+most:=v2; show v.1.r<=most+1; omega,d3⟩
end
section
open Go.Lib hiding intOf
section
variable {l:List aX} {V:Nat->ByteArray} {H:Int->ah->ByteArray} {b:ao}
end
end
section
open Go.Lib hiding intOf
theorem FA {n:Nat} (h:n<65536):(db (n:Int)).size<=8:=by
 have h1:(db n).size=(itoa n).length:=by simp [db,ByteArray.size]
 have:=zB n 5 (by omega);rw [h1,pB]; omega
section
variable {l:List aX} {inp:ah->ByteArray}
end
section
variable {l:List aX} {b:ao} {H:Int->ah->ByteArray} {P:ah->Prop}
theorem lq.in8 (hB:lq l b) (k:ah):(uf b k).size<=8:=by
 show (H3 b k).u.size<=8;unfold H3;cases hf:b.i.find? (fun x=>jK x.d k) with
 | none=>exact bY _
 | some x=>exact (hB.ins x (IF hf)).value
noncomputable def QK (b:ao) (k:ah):Bool:=decide (k.k=30)||iR b k
noncomputable def LG (b:ao) (k:ah):ByteArray:=if k.k=30 then uf b k else (cR b.s k).1.u
theorem NS {c:Nat}:QK b (ia c)=true:=by
 unfold QK;rw [show (ia c).k=30 from rfl]; rfl
theorem Sn {n:Nat}:QK b (rk l n)=iR b (rk l n):=by
 unfold QK;rw [decide_eq_false G5,Bool.false_or]
theorem LJ (hl:l.length<=8) (hB:lq l b) {k:ah} (O:kI l k):sc b k=some (LG b k,QK b k):=by
 unfold sc LG;rcases O with⟨c,_,rfl⟩|⟨n,hn,rfl⟩
 ·rw [qt,ad,cond_true,I7 (hB.rm hl).2.1,ad,NS,if_pos (show (ia c).k=30 from rfl)]
 ·rw [tF,ad,cond_false,hB.find hl,ad,Sn,if_neg G5];unfold np iR;cases h:(cR b.s (rk l n)).2 with
  | false=>rfl
  | true =>
   rw [cond_true,Av];congr 2
theorem LH (hl:l.length<=8) (hB:lq l b) (k:ah):(LG b k).size<=1000:=by
 unfold LG;split
 ·have:=hB.in8 k; omega
 ·cases h:(cR b.s k).2 with
  | true=>exact (hB.found h).1.value
  | false=>rw [(vr h).1]; exact bY _
end
end
section
open Go.Lib hiding intOf
theorem EE (k:ah):tl k=some (rI k):=by
 unfold tl iL pG rI mi e8 fy mN;have hb:∀ n:Int,((k.k:Int)==n)=decide (k.k=n):=fun n=>by rw [Bool.eq_iff_iff]; simp
 rw [hb,hb,hb,hb,hb];by_cases h32:k.k=32
 ·simp [h32]
 ·by_cases h7:k.k=7
  ·simp [h7]
  ·by_cases h14:k.k=14
   ·simp [h14]
   ·by_cases h17:k.k=17
    ·simp [h17]
    ·by_cases h18:k.k=18
     ·simp [h18]
     ·simp only [h32,h7,h14,h17,h18,decide_false,Bool.or_false,cond_false];cases decide ((1:Int)<=k.k) <;> cases decide ((k.k:Int)<=22) <;> rfl
section
variable {l:List aX} {b:ao}
theorem NY {f:ah->Option Bool} {s:List ah} (hl:Rm s.length) (h:∀ x∈s,f x=some false):iT f s=some false:=by
 unfold Rm at hl;have e:qv f s=some (-1):=by
  unfold qv;refine gG (dL (r:=Fl.go ()) s.length (fun k O=>?_) ?_) rfl
  ·unfold gI;rw [dlt O,cond_true,bq O,ad,h _ (iK O),cJ (by omega)]; rfl
  ·unfold gI;rw [bN]; rfl
 unfold iT;rw [e]; rfl
theorem NZ {f:ay->Option Bool} {s:List ay} (hl:Rm s.length) (h:∀ x∈s,f x=some false):bz f s=some false:=by
 unfold Rm at hl;have e:mh f s=some (-1):=by
  unfold mh;refine gG (dL (r:=Fl.go ()) s.length (fun k O=>?_) ?_) rfl
  ·unfold eC;rw [dlt O,cond_true,bq O,ad,h _ (iK O),cJ (by omega)]; rfl
  ·unfold eC;rw [bN]; rfl
 unfold bz;rw [e]; rfl
theorem AZ {n:Nat} (h:n<100):dt (rk l n)=some true:=by
 unfold rk;exact MX (by split <;> simp) h
theorem Bk {n:Nat} (h:n<100):dt (ia n)=some true:=LE h
theorem CS (k:ah):pc k=cO k:=rfl
theorem kI.kvalid (hl:l.length<=8) {k:ah} (h:kI l k):dt k=some true:=by
 rcases h with⟨c,hc,rfl⟩|⟨n,hn,rfl⟩
 ·exact Bk (by omega)
 ·exact AZ (by omega)
theorem Mp (hl:l.length<=8) {rev:Int} (hrev:rev<=1000000) {r:ay} (h:uB l rev r):lF r=some true:=by
 obtain⟨n,hn,O⟩:=h.key;have h3:=h.reads;have h4:=h.value;have h5:=h.low;have h6:=h.mid;have h7:=h.high;have h8:=h.cost;have hj:dH r false=some true:=by
  unfold dH;rw [cond_false,decide_eq_true (by omega),decide_eq_true (by omega),decide_eq_true (by omega),decide_eq_true (by omega),decide_eq_true (by omega)];simp only [cond_true];rw [NY (by unfold Rm; omega) fun x hx=>by unfold jp; rw [(h.good x hx).kvalid hl]; rfl]; rfl
 unfold lF;rw [O,AZ (by omega),ad,CS,tF,ad,decide_eq_false (by omega),decide_eq_false (by omega)];simp only [dJ,cond_false];cases hd:r.w with
 | false=>exact hj
 | true =>
  have:=h.dirty hd;rw [O] at this;rw [cond_true,EE,this];exact hj
theorem Qt (h:lq l b) (hl:l.length<=8):gv b.s=some true:=by
 have hn:=h.nrec;unfold gv;refine gG (dL (r:=Fl.go ()) b.s.length (fun k O=>?_) ?_) ?_
 ·unfold di;rw [dlt O,cond_true,bq O,ad,Mp hl h.rev.2 (h.recs _ (iK O)),ad];have hj:dO (k:Int) false=some (.go ((k+1:Nat):Int)):=by unfold dO; rw [cJ (by omega)]; rfl
  simp only [dJ,cond_false];rcases y6 k with h0 | h0
  ·subst h0;exact hj
  ·rw [decide_eq_true (by omega),cond_true,show IntKind.i64.wrap ((k:Int)-1)=((k-1:Nat):Int) by rw [lU (by omega) (by omega)]; omega,bq (show k-1<b.s.length by omega),ad,Fi,ad];have:=gC.1 h.recsA (k-1) k (by omega) O (by omega);rw [decide_eq_false (by omega)];exact hj
 ·unfold di;rw [bN]; rfl
 ·show some (decide ((b.s.length:Int)<=4000))=some true;rw [decide_eq_true (by omega)]
theorem Ms {c:Nat} (hc:c<100):lj (ia c)=some true:=by
 unfold lj;rw [Bk hc,ad,cond_true,CS,qt]; rfl
theorem wX (h:lq l b) (hl:l.length<=8):eu b=some true:=by
 have hn:=h.nrec;have hi:=h.nin;have hrev:=h.rev;unfold eu;rw [decide_eq_false (by omega),decide_eq_false (by omega),decide_eq_false (by omega),Qt h hl];simp only [cond_false,ad,dJ];refine gG (dL (r:=Fl.go ()) b.i.length (fun k O=>?_) ?_) ?_
 ·have hx:=h.ins _ (iK O);obtain⟨c,hc,hkey⟩:=hx.key;have h1:=hx.value;have h2:=hx.low;have h3:=hx.high;unfold dU;rw [dlt O,cond_true,bq O,ad,hkey,Ms (by omega),ad];have hj:cG (k:Int) false=some (.go ((k+1:Nat):Int)):=by unfold cG; rw [cJ (by omega)]; rfl
  simp only [dJ,cond_false];rw [decide_eq_false (show ¬ (1073741824:Int)<(b.i[k].u.size:Int) by omega),decide_eq_false (show ¬ (b.i[k].x:Int)<0 by omega),decide_eq_false (show ¬ (b.r:Int)<b.i[k].x by omega)];rcases y6 k with h0 | h0
  ·subst h0;exact hj
  ·rw [decide_eq_true (by omega),cond_true,show IntKind.i64.wrap ((k:Int)-1)=((k-1:Nat):Int) by rw [lU (by omega) (by omega)]; omega,bq (show k-1<b.i.length by omega),ad,Fi,ad];have:=gC.1 h.insA (k-1) k (by omega) O (by omega);rw [hkey] at this;rw [decide_eq_false (by omega)];exact hj
 ·unfold dU;rw [bN]; rfl
 ·show io b=some true;unfold io;rw [NZ (by unfold Rm; omega) fun x hx=>by unfold jj; rw [decide_eq_false (by have:=(h.recs x hx).high; omega)]]; rfl
end
end
section
open Go.Lib hiding intOf
section
variable {l:List aX} {x y:aq}
theorem B3 (n:Int):Ok (gK n) fun s=>s.size=8:=by
 unfold gK;refine bV (fun (k:Nat) (s:(List Int)×Int)=>k<=8/\s.1.length=k/\s.2=56-8*k) (fun r=>r.length=8) 8 ⟨bY _,rfl,rfl⟩ ?_ (fun r hr=>?_)
 ·rintro k ⟨b,s⟩ O ⟨_,h1,rfl⟩;dsimp only at h1 ⊢;unfold gc;refine ar (fun h=>?_) (fun h=>ae ?_)
  ·have h:=of_decide_eq_true h;have hw:IntKind.u64.wrap (56-8*(k:Int))=56-8*(k:Int):=by
    rw [show 56-8*(k:Int)=((56-8*k:Nat):Int) by omega,tH (by omega)]
   refine bC (decide_eq_true (by rw [hw]; omega)) (bC (dk (by simp; omega)) (ae ⟨by omega,by omega,by simp [h1],?_⟩));show IntKind.i64.wrap (56-8*(k:Int)-8)=56-8*((k+1:Nat):Int);rw [lU (by omega) (by omega)]; omega
  ·have:=of_decide_eq_false h;show b.length=8;omega
 ·unfold oL;refine ae ?_;unfold aV;simp [ByteArray.size,hr]
theorem L4 (n:Int):Ok (dz n) fun s=>s.size=8:=by
 unfold dz;exact ai (B3 _) fun s hs=>ae hs
theorem nu {n:Nat} (h:n<=1000000):Nat.ble n 140737488355328=true:=sw (by omega)
theorem MO {s:ByteArray} (h:s.size<=1000):Ok (mB s) fun y=>y.size=8+s.size:=by
 unfold mB;exact ai (B3 _) fun u hu=>bC (nu (by omega)) (ae (by rw [kz,hu]))
theorem qu (hl:l.length<=8) {k:ah} (h:kI l k):k.t.size<=8:=by
 rcases h with⟨c,hc,rfl⟩|⟨n,hn,rfl⟩
 ·exact FA (n:=c) (by omega)
 ·exact FA (n:=n) (by omega)
theorem EC (hl:l.length<=8) {k:ah} (h:kI l k):Ok (ld k) fun y=>y.size<=24:=by
 have:=qu hl h;unfold ld;refine ai (L4 _) fun u hu=>ai (MO (by omega)) fun v hv=>bC (nu (by omega)) (ae (by rw [kz]; omega))
theorem Eq (d:df):Ok (iW d) fun y=>y.size=16:=by
 unfold iW;refine ai (B3 _) fun u hu=>ai (B3 _) fun v hv=>bC (nu (by omega)) (ae (by rw [kz]; omega))
theorem Oa {s:ByteArray} (h:s.size<=100000):Ok (ni s) fun y=>y.size=s.size+16:=by
 unfold ni;exact aG (s5 (s:=s) (by omega)) (ai (Eq _) fun u hu=>bC (nu (by omega)) (ae (by rw [kz]; omega)))
theorem Gx {xs:List aq} (hn:xs.length<=1000) (h:∀ x∈xs,x.v.length<=1000):iG xs=some xs:=by
 unfold iG;rw [show loop (fun s:(List aq)×Int=>eF xs s.1 s.2) (([]:List aq),0)=some xs from
  ej (xs:=xs) (fun k=>(xs.take k,(k:Int))) rfl (fun k x hx=>by
   have O:=bh hx;dsimp only;unfold eF;have h1:=h x (aD hx);rw [dlt O,cond_true,bn,hx,ad,dk (by simp; omega),dk (by simp; omega)];simp only [gd,cond_true,qU];rw [cJ (by omega),bX hx]) (by
   dsimp only;unfold eF;rw [bN,cond_false,fW]),ad]
 rfl
end
end
section
open Go.Lib hiding intOf
theorem jX {α:Type} {W:α->List Int} {c:Nat}:∀ (xs:List α),(∀ x∈xs,(W x).length<=c)->(xs.flatMap W).length<=xs.length*c
 | [],_=>by simp
 | x::xs,h=>by
  have h1:=h x xk;have h2:=jX xs fun y hy=>h y (yl _ hy);rw [wd,bk,ip,Nat.succ_mul]; omega
theorem xF (x:bc):(wo x).length=32+x.d.t.size+x.u.size:=by
 unfold wo; simp only [bk,dI,gB,bT]; omega
theorem u0 (r:ay):(lp r).length=64+r.d.t.size+r.u.size+(r.v.flatMap lV).length:=by
 unfold lp; simp only [bk,dI,gB,bT]; omega
theorem mD (b:ao):(gf b).length=32+(b.i.flatMap wo).length+(b.s.flatMap lp).length:=by
 unfold gf; simp only [bk,bT]; omega
section
variable {l:List aX} {b c:ao} {k:ah} {x:bc} {r:ay} {v:Int}
theorem kI.kind (h:kI l k):ve k.k:=by
 rcases h with⟨c,_,rfl⟩|⟨n,_,rfl⟩
 ·exact⟨by show (0:Int)<=30; omega,by show (30:Int)<_; omega⟩
 ·rcases Ae (l:=l) (n:=n) with e | e <;> (unfold ve; rw [e]; omega)
theorem Lr (h:yo v x) (hv:v<=1000000):HN x/\(wo x).length<=48:=by
 obtain⟨c,hc,e⟩:=h.key;have h1:=h.value;have h2:x.d.t.size<=8:=by rw [e]; exact FA (n:=c) (by omega)
 have h3:=h.low;have h4:=h.high;refine⟨⟨⟨?_,⟨h3,by omega⟩⟩,by omega,by omega⟩,by rw [xF]; omega⟩;rw [e]; exact⟨by show (0:Int)<=30; omega,by show (30:Int)<_; omega⟩
theorem Id (hl:l.length<=8) (h:uB l v r) (hv:v<=1000000):Bj r/\(lp r).length<=1200:=by
 obtain⟨n,hn,e⟩:=h.key;have hg:kI l r.d:=.inr ⟨n,hn,e⟩;have h0:=qu hl hg;have h1:=h.value;have h2:=h.reads;have h3:=h.low;have h4:=h.mid;have h5:=h.high;have h6:=h.cost;have h7:=jX (W:=lV) (c:=24) r.v fun k O=>by
  have:=qu hl (h.good k O);rw [dI]; omega
 refine⟨⟨⟨hg.kind,fun k O=>(h.good k O).kind,by omega,⟨h3,by omega⟩,⟨by omega,by omega⟩,⟨by omega,by omega⟩⟩,by omega,by omega,fun k O=>?_⟩,?_⟩
 ·have:=qu hl (h.good k O); omega
 ·rw [u0]; omega
structure yn (b:ao):Prop where
 rev:ve b.r
 nin:b.i.length<=1000000
 nrec:b.s.length<=1000000
 ins:∀ x∈b.i,HN x
 recs:∀ r∈b.s,Bj r
 small:(gf b).length<=140000000000000
theorem zu (hl:l.length<=8) (h:lq l b):yn b:=by
 have h1:=h.nin;have h2:=h.nrec;have h3:=h.rev;have h4:=jX (W:=wo) (c:=48) b.i fun x hx=>(Lr (h.ins x hx) h3.2).2;have h5:=jX (W:=lp) (c:=1200) b.s fun x hx=>(Id hl (h.recs x hx) h3.2).2;exact⟨⟨h3.1,by omega⟩,by omega,by omega,fun x hx=>(Lr (h.ins x hx) h3.2).1,fun x hx=>(Id hl (h.recs x hx) h3.2).1,by rw [mD]; omega⟩
theorem yr (hl:l.length<=8) (h:lq l b):(gf b).length<=100000:=by
 have h1:=h.nin;have h2:=h.nrec;have h3:=h.rev;have h4:=jX (W:=wo) (c:=48) b.i fun x hx=>(Lr (h.ins x hx) h3.2).2;have h5:=jX (W:=lp) (c:=1200) b.s fun x hx=>(Id hl (h.recs x hx) h3.2).2;rw [mD]; omega
theorem Si {o:List Int} {xs:List bc} (h:∀ x∈xs,QJ x) (hn:xs.length<=1000000) (ho:o.length+8+(xs.flatMap wo).length<=140737488355328):tp ⟨o⟩ xs=some ⟨o++(eI xs.length++xs.flatMap wo)⟩:=by
 unfold tp;rw [tv (by omega) (by omega),ad,xd (W:=wo) (xs:=xs) (F:=mj xs) hn (by rw [bk,bT]; omega) (fun k x w hx hw=>by
  have O:=bh hx;unfold mj;rw [dlt O,cond_true,bn,hx,ad,Sf (h x (aD hx)) hw,ad,cJ (by omega)]) (fun w=>by
  unfold mj;rw [bN]; rfl),ad,fq]
 rfl
theorem Qm {o:List Int} {xs:List ay} (h:∀ x∈xs,Pw x) (hn:xs.length<=1000000) (ho:o.length+8+(xs.flatMap lp).length<=140737488355328):rO ⟨o⟩ xs=some ⟨o++(eI xs.length++xs.flatMap lp)⟩:=by
 unfold rO;rw [tv (by omega) (by omega),ad,xd (W:=lp) (xs:=xs) (F:=kM xs) hn (by rw [bk,bT]; omega) (fun k x w hx hw=>by
  have O:=bh hx;unfold kM;rw [dlt O,cond_true,bn,hx,ad,Ql (h x (aD hx)) hw,ad,cJ (by omega)]) (fun w=>by
  unfold kM;rw [bN]; rfl),ad,fq]
 rfl
theorem xm (h:yn b) (hv:eu b=some true):f8 b=some (i8 (gf b)):=by
 have hs:=h.small;rw [mD] at hs;unfold f8;rw [hv,ad,dJ,cond_false,show a8 (bF.mk ([]:List Int)) 11=some ⟨[]++eI 11⟩ from tv (N:=11) (by omega) (by simp),ad,
  vy h.rev (by simp only [bk,bT,sg]; omega),ad,Si (fun x hx=>(h.ins x hx).w) h.nin (by simp only [bk,bT,sg]; omega),ad,
  Qm (fun x hx=>(h.recs x hx).w) h.nrec (by simp only [bk,bT,sg]; omega),ad]
 have e:((([]++eI 11)++eI b.r)++(eI b.i.length++b.i.flatMap wo))++(eI b.s.length++b.s.flatMap lp)=gf b:=by
  unfold gf; simp only [qU,fq]
 rw [e,Jt (by have:=h.small; omega),ad]
theorem qr (h:yn b) (hv:eu b=some true):bW (i8 (gf b))=some (b,0):=by
 unfold bW;rw [zR (by have:=h.small; omega),ad];dsimp only;rw [show ((0:Int) != 0)=false from rfl,cond_false];have e:gf b=eI 11++(eI b.r++(eI b.i.length++(b.i.flatMap wo++(eI b.s.length++(b.s.flatMap lp++[]))))):=by unfold gf; rw [Ax]
 rw [e,kU ⟨by omega,by omega⟩,ad];dsimp only;rw [kU h.rev,ad];dsimp only;rw [Qi h.ins h.nin,ad];dsimp only;rw [N7 h.recs h.nrec,ad];rw [show ((11:Int) != 11)=false from rfl,cond_false];unfold fc dP;dsimp only;rw [fv,cond_true,show ((aV []).toList==cr.toList)=true from beq_self_eq_true _,ad,dJ,cond_false,show (ao.mk b.r b.i b.s)=b from rfl,hv,ad];rfl
theorem HV (a b:ByteArray):(a.toList==b.toList)=decide (a=b):=by
 by_cases h:a=b
 ·rw [h]; simp
 ·rw [decide_eq_false h,beq_eq_false_iff_ne];exact fun e=>h (AF e)
theorem NT {α:Type} {x y:List α} (hn:x.length=y.length) (h:x≠y):∃ k,∃ (h1:k<x.length) (h2:k<y.length),x[k]≠y[k]:=by
 refine DG fun hc=>h ?_;refine List.ext_getElem hn fun k h1 h2=>?_;exact DG fun he=>hc ⟨k,h1,h2,he⟩
theorem Mf {α ρ:Type} {x y:List α} {B:Int->Option (Fl Int ρ)} {r1 r2:ρ} (hn:x.length=y.length) (hs:∀ k (h1:k<x.length) (h2:k<y.length),x[k]=y[k]->B (k:Int)=some (.go ((k+1:Nat):Int))) (hf:∀ k (h1:k<x.length) (h2:k<y.length),x[k]≠y[k]->B (k:Int)=some (.out r1)) (hE:B (x.length:Int)=some (.out r2)) :
  (x=y->loop B 0=some r2)/\(x≠y->loop B 0=some r1):=by
 refine⟨fun e=>?_,fun e=>?_⟩
 ·subst e;exact dL x.length (fun k O=>hs k O O rfl) hE
 ·haveI:DecidableEq α:=fun a b=>Classical.propDecidable (a=b)
  have key:=yJ (B:=B) x.length (fun k=>decide (x[k]? ≠ y[k]?)) (y:=r1) (r:=r2) (fun k O hp=>by
   have h2:k<y.length:=by omega
   refine hs k O h2 ?_;have hp:=of_decide_eq_false hp;have hp:x[k]? = y[k]?:=DG fun h=>hp h;rw [cH O,cH h2] at hp;exact cC hp) (fun k O hp=>by
   have h2:k<y.length:=by omega
   refine hf k O h2 fun he=>?_;have hp:=of_decide_eq_true hp;exact hp (by rw [cH O,cH h2,he])) hE
  rw [key,if_pos];obtain⟨k,h1,h2,he⟩:=NT hn e;rw [Aw];refine⟨k,vS.2 h1,decide_eq_true ?_⟩;rw [cH h1,cH h2];exact fun h=>he (cC h)
end
end
section
open Go.Lib hiding intOf
variable {N:Nat} {o:List Int} {xs:List aq} {y:List Int}
def QP (d:df):Prop:=ve d.d1/\0<=d.b1/\d.b1<18446744073709551616
theorem gH {a b:List Int} (ha:Bh a) (hb:Bh b):Bh (a++b):=fun x hx=>by
 rcases dw.1 hx with h | h
 ·exact ha x h
 ·exact hb x h
theorem IP (d:df):Bh (o9 d):=gH (mE _) (mE _)
theorem PX {M:Nat} {k:Nat} (O:k<16):(aV (eI (N:Int)++eI (M:Int))).toList[k]? = some (UInt8.ofNat (if k<8 then hb N (7-k) else hb M (15-k))):=by
 rw [qh,Az,eI,eI,AA,AA,JQ];have e:∀ (K j:Nat),j<8->(List.map ((fun n:Int=>UInt8.ofNat n.toNat) ∘ fun b:Nat=>(b:Int)) (O8 ((K:Int)).toNat))[j]? = some (UInt8.ofNat (hb K (7-j))):=fun K j hj=>by
  rw [sf,sC,yM K hj]; rfl
 have hl:(List.map ((fun n:Int=>UInt8.ofNat n.toNat) ∘ fun b:Nat=>(b:Int)) (O8 ((N:Int)).toNat)).length=8:=rfl;rw [hl];by_cases h:k<8
 ·rw [if_pos h,if_pos h,e N k h]
 ·rw [if_neg h,if_neg h,e M (k-8) (by omega),show 7-(k-8)=15-k by omega]
theorem Uv {n:Nat} (h:n<256):(UInt8.ofNat n).toNat=n:=by rw [UInt8.toNat_ofNat']; omega
theorem EU (hN:N<18446744073709551616) {j:Nat} (hj:1<=j):N / 256 ^ j<72057594037927936:=by
 have h3:256 ^ 1<=256 ^ j:=ux (by omega) hj;have h4:N / 256 ^ j<=N / 256 ^ 1:=Gb h3 (by omega);have h5:N / 256 ^ 1<72057594037927936:=by rw [Nat.pow_one]; omega
 omega
theorem Ao (hN:N<18446744073709551616) {j:Nat} (hj:8<=j):N / 256 ^ j=0:=by
 have h3:256 ^ 8<=256 ^ j:=ux (by omega) hj;exact Bb (by omega)
theorem AR {d:df} (h:QP d):lA (aV (o9 d))=some (d,0):=by
 obtain⟨⟨a1,a2⟩,a3,a4⟩:=h;obtain⟨N,hN⟩:∃ N:Nat,d.d1=N:=⟨d.d1.toNat,by omega⟩;obtain⟨M,B⟩:∃ M:Nat,d.b1=M:=⟨d.b1.toNat,by omega⟩;have hNs:N<18446744073709551616:=by omega
 have hMs:M<18446744073709551616:=by omega
 have hz:(aV (o9 d)).size=16:=by rw [cg,uZ]
 unfold lA;rw [show (((aV (o9 d)).size:Int) != 16)=false by rw [hz]; rfl,cond_false];rw [show loop (fun s:Int×Int×Int=>f7 (aV (o9 d)) s.1 s.2.1 s.2.2) (0,0,0)=some ((N:Int),(M:Int)) from
  mK (B:=fun s:Int×Int×Int=>f7 (aV (o9 d)) s.1 s.2.1 s.2.2) (fun k=>((k:Int),((N / 256 ^ (8-k):Nat):Int),((M / 256 ^ (16-k):Nat):Int))) 16 (by
   show ((0:Int),(0:Int),(0:Int))=(((0:Nat):Int),((N / 256 ^ 8:Nat):Int),((M / 256 ^ 16:Nat):Int));rw [Ao hNs (by omega),Ao hMs (by omega)]; rfl) (fun k O=>by
   dsimp only;unfold f7;have hg:=PX (N:=N) (M:=M) O;rw [<- hN,<- B] at hg;have hg:(aV (o9 d)).toList[k]? = _:=hg;have hdiv:Int.tdiv ((k:Nat):Int) 8=((k / 8:Nat):Int):=rfl;rw [hz,decide_eq_true (by omega),cond_true,hdiv,lU (by omega) (by omega)];by_cases h8:k<8
   ·rw [show (((k / 8:Nat):Int)==0)=true by rw [show k / 8=0 by omega]; rfl,cond_true,bn,hg,ad,if_pos h8,Uv (zE _ _),Mb (EU hNs (by omega)) (zE _ _),cJ (by omega)];have:=zF N (7-k);rw [show 7-k+1=8-k by omega] at this;rw [<- this,show 8-(k+1)=7-k by omega,Ao hMs (show 8<=16-k by omega),Ao hMs (show 8<=16-(k+1) by omega)]
   ·rw [show (((k / 8:Nat):Int)==0)=false by rw [show k / 8=1 by omega]; rfl,cond_false,show (((k / 8:Nat):Int)==1)=true by rw [show k / 8=1 by omega]; rfl,cond_true,bn,hg,ad,if_neg h8,Uv (zE _ _),Mb (EU hMs (by omega)) (zE _ _),cJ (by omega)];have:=zF M (15-k);rw [show 15-k+1=16-k by omega] at this;rw [<- this,show 16-(k+1)=15-k by omega,show 8-(k+1)=8-k by omega]) (by
   dsimp only;unfold f7;rw [hz];show some (Fl.out (((N / 256 ^ 0:Nat):Int),((M / 256 ^ 0:Nat):Int)))=_;rw [DD,Bc,Bc]),ad]
 unfold jM;dsimp only;rw [FX,show N / 9223372036854775808=0 from Bb (by omega),show (((0:Nat):Int)==1)=false from rfl,cond_false,lU (by omega) (by omega),<- hN,<- B]
structure KN (r:da):Prop where
 kind:ve r.d.k
 text:r.d.t.size<=1073741824
 dig:QP r.j
structure zj (x:aq):Prop where
 kind:ve x.d.k
 text:x.d.t.size<=1073741824
 few:x.v.length<=1000000
 reads:∀ r∈x.v,KN r
 value:x.u.size<=1073741824
 cost:ve x.h
theorem JF (r:da):(Iz r).length=32+r.d.t.size:=by unfold Iz; rw [bk,dI,uZ]; omega
theorem Hi (x:aq):(vN x).length=40+x.d.t.size+x.u.size+(x.v.flatMap Iz).length:=by
 unfold vN; simp only [bk,dI,gB,bT]; omega
theorem A7 (l:List aq):(uY l).length=16+(l.flatMap vN).length:=by
 unfold uY; simp only [bk,bT]; omega
theorem QD {r:da} (h:KN r) (ho:o.length+(Iz r).length<=140737488355328):gP r ⟨o⟩=some ⟨o++Iz r⟩:=by
 rw [JF] at ho;unfold gP;rw [Ar h.kind (by rw [dI]; omega),ad,uJ h.dig.1 h.dig.2,ad,jl (IP _),Tf (by rw [cg,bk,dI,uZ]; omega)];simp only [gd,cond_true];unfold Iz;rw [fq]
theorem SM {xs:List da} (h:∀ x∈xs,KN x) (hn:xs.length<=1000000) (ho:o.length+8+(xs.flatMap Iz).length<=140737488355328):uM ⟨o⟩ xs=some ⟨o++(eI xs.length++xs.flatMap Iz)⟩:=by
 unfold uM;rw [tv (by omega) (by omega),ad,xd (W:=Iz) (xs:=xs) (F:=nD xs) hn (by rw [bk,bT]; omega) (fun k x w hx hw=>by
  have O:=bh hx;unfold nD;rw [dlt O,cond_true,bn,hx,ad,QD (h x (aD hx)) hw,ad,cJ (by omega)]) (fun w=>by
  unfold nD;rw [bN]; rfl),ad,fq]
 rfl
theorem Oj {x:aq} (h:zj x) (ho:o.length+(vN x).length<=140737488355328):jm x ⟨o⟩=some ⟨o++vN x⟩:=by
 rw [Hi] at ho;unfold jm;rw [Ar h.kind (by rw [dI]; omega),ad,SM h.reads h.few (by rw [bk,dI]; omega),ad,B6 (by simp only [bk,bT,dI]; omega),ad,vy h.cost (by simp only [bk,bT,dI,cP]; omega),ad];unfold vN nv;simp only [fq]
theorem PA (h:∀ x∈xs,zj x) (hn:xs.length<=1000000) (ho:o.length+8+(xs.flatMap vN).length<=140737488355328):ob ⟨o⟩ xs=some ⟨o++(eI xs.length++xs.flatMap vN)⟩:=by
 unfold ob;rw [tv (by omega) (by omega),ad,xd (W:=vN) (xs:=xs) (F:=jd xs) hn (by rw [bk,bT]; omega) (fun k x w hx hw=>by
  have O:=bh hx;unfold jd;rw [dlt O,cond_true,bn,hx,ad,Oj (h x (aD hx)) hw,ad,cJ (by omega)]) (fun w=>by
  unfold jd;rw [bN]; rfl),ad,fq]
 rfl
theorem Fd (h:∀ x∈xs,zj x) (hn:xs.length<=4000) (hs:(uY xs).length<=140000000000000) (hv:dK xs=some true):gr xs=some (i8 (uY xs)):=by
 have hs2:=hs;rw [A7] at hs2;unfold gr;rw [decide_eq_false (by omega),cond_false,hv,ad,dJ,cond_false,show a8 (bF.mk ([]:List Int)) 12=some ⟨[]++eI 12⟩ from tv (N:=12) (by omega) (by simp),ad,
  PA h (by omega) (by simp only [bk,bT,sg]; omega),ad]
 have e:([]++eI 12)++(eI xs.length++xs.flatMap vN)=uY xs:=by unfold uY; rw [qU]
 rw [e,Jt (by omega),ad]
theorem SL {r:da} (h:KN r):fe ⟨aV (Iz r++y),false⟩=some (r,⟨aV y,false⟩):=by
 unfold fe Iz;rw [fq,C3 h.kind (Bw h.text),ad];dsimp only;rw [uR (x:=o9 r.j) 16 rfl,ad,AR h.dig,ad];rfl
theorem Qj {xs:List da} (h:∀ x∈xs,KN x) (hn:xs.length<=1000000):lR ⟨aV (eI xs.length++(xs.flatMap Iz++y)),false⟩=some (xs,⟨aV y,false⟩):=by
 unfold lR;rw [kU ⟨by omega,by omega⟩,ad];dsimp only;rw [wY (W:=Iz) (xs:=xs) (F:=iz) hn (fun k x z hx=>by
  have O:=bh hx;obtain⟨s1,s2⟩:=w7 O hn;unfold iz;rw [s1,cond_true,fv,cond_true,SL (h x (aD hx)),ad,dk (by simp; omega)];simp only [gd,cond_true];rw [s2,bX hx]) (fun o r b=>rfl),ad]
 rfl
theorem Qg {x:aq} (h:zj x):dA ⟨aV (vN x++y),false⟩=some (x,⟨aV y,false⟩):=by
 unfold dA vN;simp only [fq];rw [C3 h.kind (Bw h.text),ad];dsimp only;rw [Qj h.reads h.few,ad];dsimp only;rw [B4 (Bw h.value),ad];dsimp only;rw [kU h.cost,ad]
theorem N4 (h:∀ x∈xs,zj x) (hn:xs.length<=1000000):gA ⟨aV (eI xs.length++(xs.flatMap vN++y)),false⟩=some (xs,⟨aV y,false⟩):=by
 unfold gA;rw [kU ⟨by omega,by omega⟩,ad];dsimp only;rw [wY (W:=vN) (xs:=xs) (F:=eK) hn (fun k x z hx=>by
  have O:=bh hx;obtain⟨s1,s2⟩:=w7 O hn;unfold eK;rw [s1,cond_true,fv,cond_true,Qg (h x (aD hx)),ad,dk (by simp; omega)];simp only [gd,cond_true];rw [s2,bX hx]) (fun o r b=>rfl),ad]
 rfl
theorem El (h:∀ x∈xs,zj x) (hn:xs.length<=4000) (hs:(uY xs).length<=140000000000000) (hv:dK xs=some true):cU (i8 (uY xs))=some (xs,0):=by
 unfold cU;rw [zR (by omega),ad];dsimp only;rw [show ((0:Int) != 0)=false from rfl,cond_false];have e:uY xs=eI 12++(eI xs.length++(xs.flatMap vN++[])):=by unfold uY; rw [Ax]
 rw [e,kU ⟨by omega,by omega⟩,ad];dsimp only;rw [N4 h (by omega),ad];rw [show ((12:Int) != 12)=false from rfl,cond_false];unfold fc dP;dsimp only;rw [fv,cond_true,show ((aV []).toList==cr.toList)=true from beq_self_eq_true _,ad,dJ,cond_false,decide_eq_false (by omega),cond_false,hv,ad];rfl
section
variable {l:List aX}
end
end
section
open Go.Lib hiding intOf
variable {r:aL}
def nN (r y:aL) (n:Nat):Prop:=y.l.size<=r.l.size/\(r.f=true->y.f=true)/\(y.f=true∨y.l.size+n<=r.l.size)
theorem nN.trans {y z:aL} {n m:Nat} (h1:nN r y n) (h2:nN y z m):nN r z n:=by
 obtain⟨a1,a2,a3⟩:=h1;obtain⟨b1,b2,b3⟩:=h2;refine⟨by omega,fun h=>b2 (a2 h),?_⟩;rcases a3 with h | h
 ·exact .inl (b2 h)
 ·exact .inr (by omega)
theorem Is (n:Int):Ok (cq r n) fun y=>nN r y.2 n.toNat/\y.1.size<=n.toNat:=by
 by_cases h1:n<0
 ·unfold cq;rw [decide_eq_true h1,cond_true];exact ae ⟨⟨bY _,fun _=>rfl,.inl rfl⟩,bY _⟩
 ·by_cases h2:((r.l.size:Int))<n
  ·unfold cq;rw [decide_eq_false h1,cond_false,decide_eq_true h2,cond_true];exact ae ⟨⟨bY _,fun _=>rfl,.inl rfl⟩,bY _⟩
  ·have hl:=cP r.l;have e:r=⟨aV ((cy r.l).take n.toNat++(cy r.l).drop n.toNat),r.f⟩:=by
    rw [qV,lS]
   refine⟨_,by rw [e]; exact uR n (by rw [eS]; omega),?_⟩;refine⟨⟨?_,fun h=>h,.inr ?_⟩,?_⟩
   ·show (aV _).size<=_;rw [cg,mO]; omega
   ·show (aV _).size+_<=_;rw [cg,mO]; omega
   ·show (aV _).size<=_;rw [cg,eS]; omega
theorem lT:Ok (be r) fun y=>nN r y.2 8:=by
 unfold be;refine ai (Is 8) fun u ⟨h1,h2⟩=>?_;have h2:u.1.size<=8:=h2;have hl:=cP u.1;refine bC (dk (by omega)) (bV (fun (k:Nat) (s:Int×Int)=>s.2=k) (fun q=>q.2=(u.2.l,u.2.f)) 8 rfl ?_ ?_)
 ·rintro k ⟨n,i⟩ O rfl;dsimp only;unfold bZ;refine ar (fun h=>?_) (fun h=>ae rfl);have h:k<(cy u.1).length:=by have:=of_decide_eq_true h; omega
  exact aG (bq h) (ae ⟨by omega,cJ (by omega)⟩)
 ·rintro⟨n,rest,bad⟩ hq;obtain⟨rfl,rfl⟩:rest=u.2.l/\bad=u.2.f:=by
   have:=congrArg Prod.fst hq;have:=congrArg Prod.snd hq;exact⟨by assumption,by assumption⟩
  unfold dm;refine ar (fun _=>ae ⟨h1.1,fun _=>rfl,.inl rfl⟩) (fun _=>ae h1)
theorem JA:Ok (cI r) fun y=>nN r y.2 8:=by
 unfold cI;exact ai lT fun u h1=>ai (Is _) fun v ⟨h2,_⟩=>ae (nN.trans h1 h2)
theorem MQ:Ok (cF r) fun y=>nN r y.2 8:=by
 unfold cF;exact ai lT fun u h1=>ai JA fun v h2=>ae (nN.trans h1 h2)
theorem SS:Ok (dB r) fun y=>nN r y.2 8:=by
 unfold dB dQ;refine ai lT fun u h1=>ar (fun h=>ae ⟨h1.1,fun _=>rfl,.inl rfl⟩) (fun h=>ae ⟨h1.1,fun hb=>?_,?_⟩)
 ·rw [h1.2.1 hb] at h; cases h
 ·rcases h1.2.2 with h3 | h3
  ·rw [h3] at h; cases h
  ·exact .inr h3
theorem Dn {α:Type} {F:List α->Int->ByteArray->Bool->Option (Fl (List α×Int×ByteArray×Bool) (List α×ByteArray×Bool))} (hr:r.l.size<=100000000)
  (hF:∀ (o:List α) (n:Int) (rest:ByteArray) (bad:Bool),o.length<=1000000000->rest.size<=r.l.size->Ok (F o n rest bad) fun f=>match f with
   | .go s=>s.1.length=o.length+1/\bad=false/\nN ⟨rest,bad⟩ ⟨s.2.2.1,s.2.2.2⟩ 8
   | .out s=>s.1=o/\s.2=(rest,bad)) (n0:Int) :
  ∃ y,loop (fun s:List α×Int×ByteArray×Bool=>F s.1 s.2.1 s.2.2.1 s.2.2.2) (([]:List α),n0,r.l,r.f)=some y/\nN r ⟨y.2.1,y.2.2⟩ 0/\y.1.length<=r.l.size+1:=by
 have h:=bV (g:=fun y=>some y) (B:=fun s:List α×Int×ByteArray×Bool=>F s.1 s.2.1 s.2.2.1 s.2.2.2) (s:=(([]:List α),n0,r.l,r.f)) (R:=fun y=>nN r ⟨y.2.1,y.2.2⟩ 0/\y.1.length<=r.l.size+1)
  (fun (k:Nat) s=>s.1.length=k/\s.2.2.1.size<=r.l.size/\(r.f=true->s.2.2.2=true)/\(s.2.2.2=true/\k<=r.l.size+1∨s.2.2.1.size+k<=r.l.size)) (fun y=>nN r ⟨y.2.1,y.2.2⟩ 0/\y.1.length<=r.l.size+1) (r.l.size+2) ⟨rfl,cm _,fun h=>h,.inr (by show r.l.size+0<=_; omega)⟩ ?_ (fun y hy=>ae hy)
 ·obtain⟨y,e,hy⟩:=h;refine⟨y,?_,hy⟩;cases hl:loop (fun s:List α×Int×ByteArray×Bool=>F s.1 s.2.1 s.2.2.1 s.2.2.2) (([]:List α),n0,r.l,r.f) with
  | none=>rw [hl] at e; cases e
  | some z=>rw [hl] at e; exact e
 ·rintro k ⟨o,n,rest,bad⟩ O ⟨h1,h2,h3,h4⟩;dsimp only at h1 h2 h3 h4 ⊢;have ho:o.length<=1000000000:=by omega
  refine (hF o n rest bad ho h2).mono fun f hf=>?_;cases f with
  | go s =>
   obtain⟨g1,g2,g3,g4,g5⟩:=hf;dsimp only at g3 g4 g5;have h4:rest.size+k<=r.l.size:=by
    rcases h4 with⟨h4,_⟩ | h4
    ·rw [g2] at h4; cases h4
    ·exact h4
   refine⟨by omega,by omega,by omega,fun hb=>g4 (h3 hb),?_⟩;rcases g5 with g5 | g5
   ·exact .inl ⟨g5,by omega⟩
   ·exact .inr (by omega)
  | out s =>
   obtain⟨g1,g2⟩:=hf;have e1:s.2.1=rest:=congrArg Prod.fst g2;have e2:s.2.2=bad:=congrArg Prod.snd g2;refine⟨⟨by show s.2.1.size<=_; rw [e1]; exact h2,fun hb=>by show s.2.2=true; rw [e2]; exact h3 hb,?_⟩,by rw [g1]; omega⟩;show s.2.2=true∨s.2.1.size+0<=_;rw [e1,e2];exact .inr (by omega)
theorem ST (hr:r.l.size<=100000000):Ok (kd r) fun y=>nN r y.2 8/\y.1.length<=r.l.size+1:=by
 unfold kd;refine ai lT fun u h1=>?_;obtain⟨y,e,hy,hn⟩:=Dn (F:=fU) (r:=u.2) (by have:=h1.1; omega) (fun o n rest bad ho hs=>by
  unfold fU;refine ar (fun _=>?_) (fun _=>ae ⟨rfl,rfl⟩);refine ar (fun hb=>?_) (fun _=>ae ⟨rfl,rfl⟩);exact ai MQ fun v h2=>bC (dk (by simp; omega)) (ae ⟨by simp,by simpa using hb,h2⟩)) u.1
 exact aG e (ae ⟨nN.trans h1 hy,by show y.1.length<=_; have:=h1.1; omega⟩)
theorem Qv:Ok (dh r) fun y=>nN r y.2 8:=by
 unfold dh;exact ai MQ fun u h1=>ai JA fun v h2=>ai lT fun w h3=>ae (nN.trans h1 (nN.trans h2 h3))
theorem Of (hr:r.l.size<=100000000):Ok (gM r) fun y=>nN r y.2 8/\y.1.length<=r.l.size+1:=by
 unfold gM;refine ai lT fun u h1=>?_;obtain⟨y,e,hy,hn⟩:=Dn (F:=eH) (r:=u.2) (by have:=h1.1; omega) (fun o n rest bad ho hs=>by
  unfold eH;refine ar (fun _=>?_) (fun _=>ae ⟨rfl,rfl⟩);refine ar (fun hb=>?_) (fun _=>ae ⟨rfl,rfl⟩);exact ai Qv fun v h2=>bC (dk (by simp; omega)) (ae ⟨by simp,by simpa using hb,h2⟩)) u.1
 exact aG e (ae ⟨nN.trans h1 hy,by show y.1.length<=_; have:=h1.1; omega⟩)
theorem Og (hr:r.l.size<=100000000):Ok (cV r) fun y=>nN r y.2 8:=by
 unfold cV;refine ai MQ fun u h1=>ai JA fun v h2=>?_;have h12:=nN.trans h1 h2;refine ai (ST (r:=v.2) (by have:=h12.1; omega)) fun w ⟨h3,_⟩=>?_;have h13:=nN.trans h12 h3;exact ai lT fun a h4=>ai lT fun b h5=>ai lT fun c h6=>ai SS fun d h7=>ae (nN.trans h13 (nN.trans h4 (nN.trans h5 (nN.trans h6 h7))))
theorem MS (hr:r.l.size<=100000000):Ok (fV r) fun y=>nN r y.2 8/\y.1.length<=r.l.size+1:=by
 unfold fV;refine ai lT fun u h1=>?_;obtain⟨y,e,hy,hn⟩:=Dn (F:=dV) (r:=u.2) (by have:=h1.1; omega) (fun o n rest bad ho hs=>by
  unfold dV;refine ar (fun _=>?_) (fun _=>ae ⟨rfl,rfl⟩);refine ar (fun hb=>?_) (fun _=>ae ⟨rfl,rfl⟩);exact ai (Og (r:=⟨rest,bad⟩) (by have:=h1.1; show rest.size<=_; omega)) fun v h2=>bC (dk (by simp; omega)) (ae ⟨by simp,by simpa using hb,h2⟩)) u.1
 exact aG e (ae ⟨nN.trans h1 hy,by show y.1.length<=_; have:=h1.1; omega⟩)
theorem Qw (s:ByteArray):Ok (lA s) fun _=>True:=by
 unfold lA;refine ar (fun _=>ae trivial) (fun h=>?_);have hs:s.size=16:=by
  have:(s.size:Int)=16:=by simpa using h
  omega
 have hl:=Dw s;refine bV (fun (k:Nat) (t:Int×Int×Int)=>t.1=k) (fun _=>True) 16 rfl ?_ (fun r _=>?_)
 ·rintro k ⟨i,a,b⟩ O rfl;dsimp only;unfold f7;refine ar (fun h=>?_) (fun _=>ae trivial);have h:k<16:=by have:=of_decide_eq_true h; omega
  have hg:=bq (xs:=s.toList) (k:=k) (by omega);have hdiv:Int.tdiv ((k:Nat):Int) 8=((k / 8:Nat):Int):=rfl;rw [hdiv,lU (by omega) (by omega)];refine ar (fun _=>aG hg (ae ⟨h,cJ (by omega)⟩)) (fun h0=>ar (fun _=>aG hg (ae ⟨h,cJ (by omega)⟩)) (fun h1=>?_));have e0:((k / 8:Nat):Int)≠0:=by simpa using h0
  have e1:((k / 8:Nat):Int)≠1:=by simpa using h1
  omega
 ·unfold jM;exact ar (fun _=>ae trivial) (fun _=>ae trivial)
theorem SU:Ok (fe r) fun y=>nN r y.2 8:=by
 unfold fe gj;refine ai MQ fun u h1=>ai (Is 16) fun v ⟨h2,_⟩=>ai (Qw _) fun w _=>?_;have h3:=nN.trans h1 h2;refine ar (fun h=>ae ⟨h3.1,fun _=>rfl,.inl rfl⟩) (fun h=>ae ⟨h3.1,fun hb=>?_,?_⟩)
 ·rw [h3.2.1 hb] at h; cases h
 ·rcases h3.2.2 with h4 | h4
  ·rw [h4] at h; cases h
  ·exact .inr h4
theorem Qy (hr:r.l.size<=100000000):Ok (lR r) fun y=>nN r y.2 8/\y.1.length<=r.l.size+1:=by
 unfold lR;refine ai lT fun u h1=>?_;obtain⟨y,e,hy,hn⟩:=Dn (F:=iz) (r:=u.2) (by have:=h1.1; omega) (fun o n rest bad ho hs=>by
  unfold iz;refine ar (fun _=>?_) (fun _=>ae ⟨rfl,rfl⟩);refine ar (fun hb=>?_) (fun _=>ae ⟨rfl,rfl⟩);exact ai (SU) fun v h2=>bC (dk (by simp; omega)) (ae ⟨by simp,by simpa using hb,h2⟩)) u.1
 exact aG e (ae ⟨nN.trans h1 hy,by show y.1.length<=_; have:=h1.1; omega⟩)
theorem KC (hr:r.l.size<=100000000):Ok (dA r) fun y=>nN r y.2 8:=by
 unfold dA;refine ai MQ fun u h1=>ai (Qy (r:=u.2) (by have:=h1.1; omega)) fun v ⟨h2,_⟩=>?_;have h12:=nN.trans h1 h2;exact ai JA fun a h4=>ai lT fun b h5=>ae (nN.trans h12 (nN.trans h4 h5))
theorem Ir (hr:r.l.size<=100000000):Ok (gA r) fun y=>nN r y.2 8/\y.1.length<=r.l.size+1:=by
 unfold gA;refine ai lT fun u h1=>?_;obtain⟨y,e,hy,hn⟩:=Dn (F:=eK) (r:=u.2) (by have:=h1.1; omega) (fun o n rest bad ho hs=>by
  unfold eK;refine ar (fun _=>?_) (fun _=>ae ⟨rfl,rfl⟩);refine ar (fun hb=>?_) (fun _=>ae ⟨rfl,rfl⟩);exact ai (KC (r:=⟨rest,bad⟩) (by have:=h1.1; show rest.size<=_; omega)) fun v h2=>bC (dk (by simp; omega)) (ae ⟨by simp,by simpa using hb,h2⟩)) u.1
 exact aG e (ae ⟨nN.trans h1 hy,by show y.1.length<=_; have:=h1.1; omega⟩)
theorem IC {o:List Int} {n:Int} (hn:ve n) (h11:n≠11) (ho:o.length<=1000000-8):bW (i8 (eI n++o))=some (⟨0,[],[]⟩,5):=by
 have hlen:(eI n++o).length<=1000000:=by rw [bk,bT]; omega
 unfold bW;rw [zR (by omega),ad];dsimp only;rw [show ((0:Int) != 0)=false from rfl,cond_false,kU hn,ad];dsimp only;have hso:(aV o).size=o.length:=cg o;obtain⟨u2,e2,h2⟩:=lT (r:=⟨aV o,false⟩);have g2:u2.2.l.size<=o.length:=by have:=h2.1; dsimp only at this; omega
 obtain⟨u3,e3,h3,_⟩:=Of (r:=u2.2) (by omega);have g3:=h3.1;obtain⟨u4,e4,h4,_⟩:=MS (r:=u3.2) (by omega);rw [e2,ad,show (aL.mk u2.2.l u2.2.f)=u2.2 from rfl,e3,ad,show (aL.mk u3.2.l u3.2.f)=u3.2 from rfl,e4,ad,show (n != 11)=true from bne_iff_ne.2 h11,cond_true]
theorem IB {o:List Int} {n:Int} (hn:ve n) (h12:n≠12) (ho:o.length<=1000000-8):cU (i8 (eI n++o))=some ([],5):=by
 have hlen:(eI n++o).length<=1000000:=by rw [bk,bT]; omega
 unfold cU;rw [zR (by omega),ad];dsimp only;rw [show ((0:Int) != 0)=false from rfl,cond_false,kU hn,ad];dsimp only;have hso:(aV o).size=o.length:=cg o;obtain⟨u2,e2,h2⟩:=Ir (r:=⟨aV o,false⟩) (by dsimp only; omega);rw [e2,ad,show (n != 12)=true from bne_iff_ne.2 h12,cond_true]
end
section
open Go.Lib hiding intOf
structure tJ (l:List aX) (x:aq):Prop where
 cost:1<=x.h/\x.h<=30000
 key:∃ n,n<l.length/\x.d=rk l n
 value:x.u.size<=1000
 few:x.v.length<=3
 reads:∀ r∈x.v,kI l r.d/\0<=r.j.d1/\r.j.d1<=1000/\0<=r.j.b1/\r.j.b1<18446744073709551616
section
variable {l:List aX} {x y:aq}
theorem Cc (C:bM l) (h:tJ l x):eJ x=some true:=by
 have hl:=C.high;obtain⟨h1,h2⟩:=And.intro h.few h.reads;obtain⟨n,hn,e⟩:=h.key;have hv:=h.value;have hc:=h.cost;unfold eJ;rw [dL (r:=Fl.go ()) x.v.length (fun k O=>by
  obtain⟨g1,g2,_⟩:=h2 _ (iK O);unfold fT;rw [dlt O,cond_true,bq O,ad,g1.valid hl,ad,dJ,cond_false,decide_eq_false (by omega),cond_false,cJ (by omega)]) (by
  unfold fT; rw [bN]; rfl),ad]
 show fQ x=_;unfold fQ c7;rw [e,Dg (by omega),tF,ad,cond_true,ad,fv,cond_true,decide_eq_true (by omega),decide_eq_true (by omega),decide_eq_true (by omega)]; rfl
theorem H1 (C:bM l) (h:tJ l x):pz x=some true:=by
 have hl:=C.high;obtain⟨h1,h2⟩:=And.intro h.few h.reads;obtain⟨n,hn,e⟩:=h.key;have hv:=h.value;have hc:=h.cost;unfold pz;rw [dL (r:=Fl.go ()) x.v.length (fun k O=>by
  obtain⟨g1,g2,_⟩:=h2 _ (iK O);unfold lY;rw [dlt O,cond_true,bq O,ad,g1.kvalid hl,ad,dJ,cond_false,decide_eq_false (by omega),cond_false,cJ (by omega)]) (by
  unfold lY; rw [bN]; rfl),ad]
 show lX x=_;unfold lX f9;rw [e,AZ (by omega),CS,tF,ad,cond_true,ad,fv,cond_true,decide_eq_true (by omega),decide_eq_true (by omega),decide_eq_true (by omega)]; rfl
theorem Er (C:bM l) {xs:List aq} (hn:xs.length<=1000) (h:∀ x∈xs,tJ l x):dK xs=some true:=by
 unfold dK;rw [dL (r:=Fl.go ()) xs.length (fun k O=>by
  unfold iB;rw [dlt O,cond_true,bq O,ad,H1 C (h _ (iK O)),ad,dJ,cond_false,cJ (by omega)]) (by
  unfold iB; rw [bN]; rfl),ad]
 rfl
theorem C0 (C:bM l) (h:tJ l x):Ok (jT [x]) fun _=>True:=by
 have hl:=C.high;obtain⟨h1,h2⟩:=And.intro h.few h.reads;obtain⟨n,hn,e⟩:=h.key;have hv:=h.value;have hg:kI l x.d:=.inr ⟨n,hn,e⟩;unfold jT;rw [decide_eq_false (by simp),cond_false];refine ai (L4 _) fun u hu=>ai (L4 _) fun v hv2=>bC (nu (by omega)) ?_;refine bV (fun (k:Nat) (s:ByteArray×Int)=>s.2=k/\s.1.size<=2500*(k+1)) (fun r=>∃ s:ByteArray,r = .go s/\s.size<=5000) 1 ⟨rfl,by rw [kz]; omega⟩ ?_ ?_
 ·rintro k ⟨s,i⟩ O ⟨rfl,hs⟩;dsimp only at hs ⊢;unfold lN;refine ar (fun hlt=>?_) (fun _=>ae ⟨s,rfl,by omega⟩);have hlt:k<[x].length:=by have:=of_decide_eq_true hlt; omega
  obtain rfl:k=0:=by simp at hlt; omega
  refine aG (bq hlt) ?_;show Ok ((eJ x).bind _) _;refine aG (Cc C h) ?_;simp only [dJ,cond_false];refine ai (EC hl hg) fun u2 hu2=>ai (L4 _) fun u3 hu3=>bC (nu (by omega)) (bC (nu (by rw [kz]; omega)) ?_);refine bV (fun (j:Nat) (t:ByteArray×Int)=>t.2=j/\t.1.size<=2600+50*j) (fun t=>t.size<=2900) x.v.length ⟨rfl,by rw [kz,kz]; omega⟩ ?_ ?_
  ·rintro j ⟨t,i⟩ hj ⟨rfl,ht⟩;dsimp only at ht ⊢;unfold lM;refine ar (fun hlt2=>?_) (fun _=>ae (by show t.size<=2900; omega));have hlt2:j<x.v.length:=by have h9:(j:Int)<(x.v.length:Int):=of_decide_eq_true hlt2; omega
   obtain⟨g1,_⟩:=h2 _ (iK hlt2);refine aG (bq hlt2) (ai (EC hl g1) fun a ha=>ai (Eq _) fun c hc=>bC (nu (by omega)) (bC (nu (by rw [kz]; omega)) (ae ⟨hlt2,cJ (by omega),?_⟩)));show (t++(a++c)).size<=_;rw [kz,kz]; omega
  ·intro t ht;unfold lL lK;refine ai (MO (s:=x.u) (by omega)) fun a ha=>ai (L4 _) fun c hc=>bC (nu (by omega)) (bC (nu (by rw [kz]; omega)) (ae ⟨by omega,rfl,?_⟩));show (t++(a++c)).size<=_;rw [kz,kz]; omega
 ·rintro r ⟨s,rfl,hs⟩;show Ok (jB s) _;unfold jB;exact ai (Oa (by omega)) fun _ _=>ae trivial
theorem Cd (C:bM l) (hx:tJ l x) (hy:tJ l y):Ok (s4 x y) fun _=>True:=by
 unfold s4;refine aG (mC _ _) (ar (fun _=>ae trivial) (fun _=>ai (C0 C hx) fun u _=>ai (C0 C hy) fun v _=>?_));exact aG (v:=Lib.compareBytes u.toList v.toList) rfl (ae trivial)
theorem Kg (C:bM l) {a b:List aq} (ha:∀ x∈a,tJ l x) (hb:∀ x∈b,tJ l x) (hn:a.length+b.length<=500):Ok (sa a b) fun y=>y.1.length<=a.length+b.length/\(∀ x∈y.1,tJ l x):=by
 have hab:∀ x∈a++b,tJ l x:=fun x hx=>by
  rcases dw.1 hx with hx | hx
  ·exact ha x hx
  ·exact hb x hx
 have hlen:(a++b).length<=500:=by rw [bk]; exact hn
 unfold sa;refine bC (dk (by simp; omega)) (bC (dk (by simp; omega)) ?_);refine aG (v:=Fl.go ()) (dL (r:=Fl.go ()) (a++b).length (fun k O=>?_) ?_) ?_
 ·unfold nn;simp only [qU];rw [dlt O,cond_true,bq O,ad,Cc C (hab _ (iK O)),ad,dJ,cond_false,cJ (by omega)]
 ·unfold nn;simp only [qU];rw [bN]; rfl
 show Ok (nk a b) _;unfold nk;refine bC (dk (by simp; omega)) (bC (dk (by simp; omega)) ?_);refine bV (fun (k:Nat) (s:(List aq)×Int)=>s.2=k/\s.1.length<=k/\∀ x∈s.1,tJ l x) (fun r=>r.length<=(a++b).length/\∀ x∈r,tJ l x) (a++b).length ⟨rfl,cm _,fun x hx=>absurd hx fu⟩ ?_ ?_
 ·rintro k ⟨o,i⟩ O ⟨rfl,h2,h3⟩;dsimp only at h2 h3 ⊢;unfold qe;simp only [qU];refine ar (fun hlt=>?_) (fun _=>ae ⟨by show o.length<=_; omega,h3⟩);have hlt:k<(a++b).length:=by have:=of_decide_eq_true hlt; omega
  have hx:=hab _ (iK hlt);refine aG (bq hlt) ?_;refine bV (fun (j:Nat) (s:Int)=>s=j/\j<=o.length) (fun r=>∃ j:Nat,r=j/\j<=o.length) o.length ⟨rfl,bY _⟩ ?_ ?_
  ·rintro j s hj ⟨rfl,hj2⟩;unfold qd;refine ar (fun hlt2=>?_) (fun _=>ae ⟨j,rfl,hj2⟩);have hlt2:j<o.length:=by have:=of_decide_eq_true hlt2; omega
   refine aG (bq hlt2) (ai (Cd C (h3 _ (iK hlt2)) hx) fun u _=>ar (fun _=>ae ⟨hlt2,cJ (by omega),hlt2⟩) (fun _=>ae ⟨j,rfl,hj2⟩))
  ·rintro r ⟨j,rfl,hj⟩;have hj3:∀ q,Ok (li o (k:Int) (a++b)[k] (j:Int) q) fun r=>match r with
     | .go s'=>k<(a++b).length/\(s'.2=((k+1:Nat):Int)/\s'.1.length<=k+1/\∀ x∈s'.1,tJ l x)
     | .out r=>r.length<=(a++b).length/\∀ x∈r,tJ l x:=fun q=>by
    unfold li nj;refine ar (fun _=>?_) (fun _=>ae ⟨hlt,cJ (by omega),by show o.length<=k+1; omega,h3⟩);refine aG (uW hj) (aG (Ak hj) ?_);refine bC (dk (by simp; omega)) (bC (dk (by simp; omega)) (bC (dk (by simp; omega)) (ae ⟨hlt,cJ (by omega),by simp; omega,fun x hm=>?_⟩)));rcases dw.1 hm with hm | hm
    ·rcases dw.1 hm with hm | hm
     ·exact h3 x (y4 (by simpa using hm))
     ·rw [dF.1 hm]; exact hx
    ·exact h3 x (A8 hm)
   unfold qc;refine ar (fun _=>(hj3 _).mono fun y hy=>by cases y <;> exact hy) (fun hne=>?_);have hlt2:j<o.length:=by
    have:((j:Int)==(o.length:Int))=false:=hne;have h5:(j:Int)≠(o.length:Int):=by simpa using this
    omega
   exact aG (bq hlt2) (ai (Cd C (h3 _ (iK hlt2)) hx) fun u _=>(hj3 _).mono fun y hy=>by cases y <;> exact hy)
 ·rintro r ⟨hr,hr2⟩;unfold qb;rw [bk] at hr;rw [decide_eq_false (by omega),cond_false,Gx (by omega) fun x hx=>by have:=(hr2 x hx).few; omega];exact ae ⟨hr,hr2⟩
end
section
variable {l:List aX} {b:ao}
theorem Cu (C:bM l) (hB:lq l b) {m:ay} (hm:m∈b.s) {β:Type} {g:Bool×(List da)->Option β} {R:β->Prop}
  (k:∀ r:Bool×(List da),r.2.length<=3/\(∀ q∈r.2,kI l q.d/\0<=q.j.d1/\q.j.d1<=1000/\0<=q.j.b1/\q.j.b1<18446744073709551616)->Ok (g r) R) :
  Ok ((loop (fun s:Bool×Int×(List da)=>lh b m s.1 s.2.1 s.2.2) ((m.c:Int)==b.r,0,([]:List da))).bind g) R:=by
 have hl:=C.high;have hm':=hB.recs m hm;have hrl:=hm'.reads;refine bV (fun (j:Nat) (s:Bool×Int×(List da))=>s.2.1=j/\s.2.2.length=j/\(∀ q∈s.2.2,kI l q.d/\0<=q.j.d1/\q.j.d1<=1000/\0<=q.j.b1/\q.j.b1<18446744073709551616)) (fun r=>r.2.length<=3/\(∀ q∈r.2,kI l q.d/\0<=q.j.d1/\q.j.d1<=1000/\0<=q.j.b1/\q.j.b1<18446744073709551616)) m.v.length ⟨rfl,rfl,fun q hq=>absurd hq fu⟩ ?_ k;rintro j ⟨a,i,xs⟩ hj ⟨rfl,h2,h3⟩;dsimp only at h2 h3 ⊢;unfold lh;refine ar (fun hlt=>?_) (fun hlt=>ae ⟨by show xs.length<=3; omega,h3⟩);have hlt:j<m.v.length:=by have:=of_decide_eq_true hlt; omega
 have hg:=hm'.good _ (iK hlt);refine aG (bq hlt) (aG (LJ hl hB hg) ?_);have hj4:∀ q:Bool,Ok (ji (j:Int) xs m.v[j] (LG b m.v[j],QK b m.v[j]) q) fun r=>match r with
   | .go s'=>j<m.v.length/\(s'.2.1=((j+1:Nat):Int)/\s'.2.2.length=j+1/\(∀ q∈s'.2.2,kI l q.d/\0<=q.j.d1/\q.j.d1<=1000/\0<=q.j.b1/\q.j.b1<18446744073709551616))
   | .out r=>r.2.length<=3/\(∀ q∈r.2,kI l q.d/\0<=q.j.d1/\q.j.d1<=1000/\0<=q.j.b1/\q.j.b1<18446744073709551616):=fun q=>by
  unfold ji;have O:=LH hl hB m.v[j];have hlt2:=(dY c0 (LG b m.v[j]).toList).isLt;refine aG (s5 (s:=LG b m.v[j]) (by omega)) (bC (dk (by simp; omega)) (ae ⟨hlt,cJ (by omega),by simp [h2],fun z hz=>?_⟩));rcases dw.1 hz with hz | hz
  ·exact h3 z hz
  ·rw [dF.1 hz];refine⟨hg,?_,?_,?_,?_⟩
   ·show (0:Int)<=((LG b m.v[j]).size:Int); omega
   ·show ((LG b m.v[j]).size:Int)<=1000; omega
   ·show (0:Int)<=((dY c0 (LG b m.v[j]).toList).toNat:Int); omega
   ·show ((dY c0 (LG b m.v[j]).toList).toNat:Int)<18446744073709551616; omega
 exact ar (fun ha=>(hj4 _).mono fun y hy=>by cases y <;> exact hy) (fun _=>(hj4 _).mono fun y hy=>by cases y <;> exact hy)
theorem Gw (C:bM l) (hB:lq l b):Ok (ox b) fun y=>y.length<=8/\∀ x∈y,tJ l x:=by
 have hl:=C.high;have hnr:=hB.nrec;unfold ox;refine bV (fun (j:Nat) (s:(List aq)×Int)=>s.2=j/\s.1.length<=j/\∀ x∈s.1,tJ l x) (fun r=>r.length<=8/\∀ x∈r,tJ l x) b.s.length ⟨rfl,cm _,fun x hx=>absurd hx fu⟩ ?_ (fun r hr=>ae hr);rintro j ⟨o,i⟩ hj ⟨rfl,h2,h3⟩;dsimp only at h2 h3 ⊢;unfold nM;refine ar (fun hlt=>?_) (fun _=>ae ⟨by show o.length<=8; omega,h3⟩);have hlt:j<b.s.length:=by have:=of_decide_eq_true hlt; omega
 have hm:=iK hlt;refine aG (bq hlt) (Cu C hB hm fun r hr=>?_);unfold lg lf;refine ar (fun ha=>bC (dk (by simp; omega)) (ae ⟨hlt,cJ (by omega),by simp; omega,fun x hx=>?_⟩)) (fun _=>ae ⟨hlt,cJ (by omega),by show o.length<=j+1; omega,h3⟩);rcases dw.1 hx with hx | hx
 ·exact h3 x hx
 ·rw [dF.1 hx];have hm':=hB.recs _ hm;exact⟨hm'.cost,hm'.key,hm'.value,hr.1,hr.2⟩
theorem xP (C:bM l) (hB:lq l b) (hrev:b.r<=1000) {d:List Int} {i:Int} (hd:cD d i):Ok (kN ⟨d,i⟩ l b) fun y=>y.1.length<=24/\(∀ x∈y.1,tJ l x)/\cD y.2.L y.2.s1:=by
 unfold kN;refine ai (eE hd (by omega) (by omega)) fun y ⟨y1,y2,d1⟩=>?_;rw [lU (by omega) (by omega)];refine bV (fun (k:Nat) (s:(List aq)×Int×(List Int)×Int×Int×(List bc)×(List ay))=>s.2.1=1+y.1-k/\0<=s.2.1/\s.1.length<=8*k/\(∀ x∈s.1,tJ l x)/\cD s.2.2.1 s.2.2.2.1/\lq l (ao.mk s.2.2.2.2.1 s.2.2.2.2.2.1 s.2.2.2.2.2.2)/\s.2.2.2.2.1<=1000+k) (fun r=>r.1.length<=24/\(∀ x∈r.1,tJ l x)/\cD r.2.1 r.2.2) 3 ⟨by simp,by show 0<=1+y.1; omega,by show 0<=_; omega,fun x hx=>absurd hx fu,d1,hB,by show b.r<=_; omega⟩ ?_ (fun r hr=>ae hr);rintro k ⟨o,c,d,i,rev,ins,recs⟩ O ⟨g1,g2,g3,g4,g5,g6,g8⟩;dsimp only at g1 g2 g3 g4 g5 g6 g8 ⊢;unfold mM;refine ar (fun hc=>?_) (fun _=>ae ⟨by show o.length<=24; omega,g4,g5⟩);have hc:=of_decide_eq_true hc;refine ai (CM C g5 (by omega) (by omega)) fun z ⟨z1,z2,d2⟩=>ai (Db C g6 z1 z2) fun u hu=>ai (Gw C hu.ok) fun a ⟨a1,a2⟩=>ai (Kg C g4 a2 (by omega)) fun m ⟨m1,m2⟩=>ai (yu d2 (by omega) (by omega)) fun w ⟨w1,w2,d3⟩=>?_;have hur:u.1.r=rev:=hu.rev;refine ai (yq C hu.ok (by rw [hur]; omega) w1 (by omega)) fun v ⟨v1,v2⟩=>?_;rw [hur] at v2;exact ae ⟨by omega,by show IntKind.i64.wrap (c-1)=_; rw [lU (by omega) (by omega)]; omega,by show 0<=IntKind.i64.wrap (c-1); rw [lU (by omega) (by omega)]; omega,by show m.1.length<=_; omega,m2,d3,v1,by show v.1.r<=_; omega⟩
theorem IL (hl:l.length<=8) {x:aq} (h:tJ l x):zj x/\(vN x).length<=1200:=by
 obtain⟨n,hn,e⟩:=h.key;have hg:kI l x.d:=.inr ⟨n,hn,e⟩;have ht:=qu hl hg;have hv:=h.value;have hc:=h.cost;have h1:=h.few;have h7:=jX (W:=Iz) (c:=40) x.v fun r hr=>by
  have:=qu hl (h.reads r hr).1;rw [JF]; omega
 refine⟨⟨hg.kind,by omega,by omega,fun r hr=>?_,by omega,⟨by omega,by omega⟩⟩,by rw [Hi]; omega⟩;obtain⟨g1,g2,g3,g4,g5⟩:=h.reads r hr;have:=qu hl g1;exact⟨g1.kind,by omega,⟨g2,by omega⟩,g4,g5⟩
theorem Gj (hl:l.length<=8) {xs:List aq} (hn:xs.length<=24) (h:∀ x∈xs,tJ l x):(∀ x∈xs,zj x)/\(uY xs).length<=100000:=by
 have h7:=jX (W:=vN) (c:=1200) xs fun x hx=>(IL hl (h x hx)).2;exact⟨fun x hx=>(IL hl (h x hx)).1,by rw [A7]; omega⟩
end
end
section
open Go.Lib hiding intOf
theorem H9 {m:Option Bool} (h:Ok m fun r=>r=true):m=some true:=by obtain⟨v,e,rfl⟩:=h; exact e
section
variable {l:List aX} {b:ao}
theorem Il {r:ay} (h:Rm r.v.length):iZ r r=some true:=by
 unfold iZ dv;rw [Ed h];simp
theorem Kw {recs:List ay} (h:KO recs):o3 recs recs=some true:=by
 have hl:=h.1;unfold Rm at hl;unfold o3;rw [show (((recs.length:Int):Int) != (recs.length:Int))=false by simp,cond_false];refine gG (dL (r:=Fl.go ()) recs.length (fun k O=>?_) ?_) rfl
 ·unfold i6;rw [dlt O,cond_true,bq O,ad,ad,Il (h.2 _ (iK O)),cJ (by omega)]; rfl
 ·unfold i6;rw [bN]; rfl
theorem A0 (h:KO b.s) (hi:Rm b.i.length):kl b b=some true:=by
 unfold Rm at hi;unfold kl;rw [show ((b.r:Int) != b.r)=false by simp,cond_false,show (((b.i.length:Int):Int) != (b.i.length:Int))=false by simp,cond_false,Kw h];simp only [ad,dJ,cond_false];refine gG (dL (r:=Fl.go ()) b.i.length (fun k O=>?_) ?_) rfl
 ·unfold gL;rw [dlt O,cond_true,bq O,ad,ad,cJ (by omega)];simp
 ·unfold gL;rw [bN]; rfl
end
theorem wF {t:List Int} (h:¬ t.length<=400):lE t=some false:=by
 unfold lE;rw [decide_eq_false (by omega)]
theorem yH {t:List Int} (h:t.length<=400):lE t=some true:=by
 unfold lE;rw [decide_eq_true (by omega)]
end
section
open Go.Lib hiding intOf
theorem Ag:∀ (a b:List UInt8) (c:BitVec 64),dY c (a++b)=dY (dY c a) b
 | [],_,_=>rfl
 | x::a,b,c=>Ag a b _
theorem ID {a b w:BitVec 64} (h:a ^^^ w=b ^^^ w):a=b:=by
 have:=congrArg (· ^^^ w) h;simpa only [Au,Hu,DF] using this
theorem ET:∀ (l:List UInt8) {a b:BitVec 64},dY a l=dY b l->a=b
 | [],_,_,h=>h
 | x::l,a,b,h=>ID (ud 8 (ET l h))
theorem Hb {a b:List Int} (ha:Bh a) (hb:Bh b) (h:aV a=aV b):a=b:=by rw [<- jl ha,h,jl hb]
theorem Q0 {A P Q C:List Int} (hP:Bh P) (hQ:Bh Q) (hn:P.length=Q.length) (h8:P.length<=8) (hs:(A++(P++C)).length<=1000000) (h:aV (o9 (BV (aV (A++(P++C)))))=aV (o9 (BV (aV (A++(Q++C)))))):P=Q:=by
 have k1:=vn (s:=aV (A++(P++C))) (by rw [cg]; omega);have k2:=vn (s:=aV (A++(Q++C))) (by rw [cg]; simp only [bk] at hs ⊢; omega);have e1:=AR k1;rw [h,AR k2] at e1;have e2:BV (aV (A++(Q++C)))=BV (aV (A++(P++C))):=congrArg Prod.fst (cC e1);have e3:((dY c0 (aV (A++(Q++C))).toList).toNat:Int)=((dY c0 (aV (A++(P++C))).toList).toNat:Int):=congrArg df.b1 e2;have e4:dY c0 (aV (A++(P++C))).toList=dY c0 (aV (A++(Q++C))).toList:=BitVec.eq_of_toNat_eq (by omega);rw [qh,qh] at e4;simp only [Az] at e4;rw [Ag,Ag,Ag,Ag] at e4;have e5:=Gy (by rw [oz,oz,hn]) (by rw [oz]; exact h8) (ET _ e4);refine Hb hP hQ (AF ?_);rw [qh,qh];exact e5
theorem Ma {o D:List Int} (h:o.length<=1000000) (hD:D.length=16) (hne:aV (o9 (BV (aV o)))≠aV D):bW (aV (o++D))=some (⟨0,[],[]⟩,46):=by
 have hs:(aV o).size<=140000000000000:=by rw [cg]; omega
 obtain⟨d1,d2,d3⟩:=vn hs;have hz:(aV (o++D)).size=o.length+16:=by rw [cg,bk,hD]
 have hsub:ln (aV (o++D)) 0 (o.length:Int)=some (aV o):=by
  have:=me (l:=o++D) (a:=0) (b:=o.length) (bY _) (by rw [bk]; omega);rw [Ga rfl,yh] at this;exact this
 have hsub2:ln (aV (o++D)) (o.length:Int) ((aV (o++D)).size:Int)=some (aV D):=by
  have:=me (l:=o++D) (a:=o.length) (b:=(o++D).length) (by rw [bk]; omega) (cm _);rw [fW,JO rfl] at this;rw [cg]; exact this
 have e:fm (aV (o++D))=some (⟨⟨#[]⟩,false⟩,46):=by
  unfold fm;rw [show IntKind.i64.wrap (((aV (o++D)).size:Int)-16)=(o.length:Int) by rw [hz,lU (by omega) (by omega)]; omega];rw [decide_eq_false (by omega),cond_false,hsub,ad,hsub2,ad,Fs hs,ad,uJ d1 ⟨d2,d3⟩,ad,HV,decide_eq_false hne,fv,cond_true]
 unfold bW;rw [e,ad];rfl
theorem Cj {α:Type} {W:α->List Int} {xs:List α} (h:∀ x∈xs,Bh (W x)):Bh (xs.flatMap W):=fun y hy=>by
 obtain⟨x,hx,h2⟩:=List.mem_flatMap.1 hy;exact h x hx y h2
theorem Cm (s:ByteArray):Bh (nv s):=gH (mE _) (uF _)
theorem Fg (k:ah):Bh (lV k):=gH (mE _) (Cm _)
theorem KS (b:ao):Bh (gf b) :=
 gH (mE _) (gH (mE _) (gH (mE _) (gH (Cj fun x _=>gH (Fg _) (gH (Cm _) (mE _))) (gH (mE _)
  (Cj fun r _=>gH (Fg _) (gH (Cm _) (gH (mE _) (gH (Cj fun k _=>Fg k) (gH (mE _) (gH (mE _) (gH (mE _) (mE _))))))))))))
theorem Qo:KO ([]:List ay):=⟨by unfold Rm; simp,fun r hr=>absurd hr fu⟩
theorem IN:lq [] ⟨0,[],[]⟩:=⟨by decide,fun x hx=>absurd hx fu,sD,fun x hx=>absurd hx fu,sD⟩
theorem vg:dc=some true:=by
 have hb:=zu (l:=[]) (by simp) IN;have hv:=wX IN (by simp);have hn:∀ x∈([]:List aq),zj x:=fun x hx=>absurd hx fu;have hz:(uY []).length<=140000000000000:=by rw [A7]; simp
 have hvl:dK []=some true:=by
  unfold dK;rw [dL (r:=Fl.go ()) 0 (fun k O=>absurd O (by omega)) rfl]; rfl
 unfold dc;rw [xm hb hv,ad,qr hb hv,ad,Fd hn (by simp) hz hvl,ad,El hn (by simp) hz hvl,ad,tG,show (gf ⟨0,[],[]⟩).length=32 by rw [mD]; rfl];dsimp only;rw [A0 (b:=⟨0,[],[]⟩) Qo (by unfold Rm; simp)];rfl
theorem Fe {xs:List aq} (hn:xs.length<=1000000) (h:∀ x∈xs,x.v.length<=1000000):iH xs xs=some true:=by
 unfold iH;rw [show (((xs.length:Int):Int) != (xs.length:Int))=false by simp,cond_false];refine gG (dL (r:=Fl.go ()) xs.length (fun k O=>?_) ?_) rfl
 ·have hr:=h _ (iK O);have e:ow xs[k] xs[k]=some true:=by
   unfold ow;rw [show ((xs[k].d.k:Int)==xs[k].d.k&&xs[k].d.t.toList==xs[k].d.t.toList)=true by simp,beq_self_eq_true,show ((xs[k].h:Int) != xs[k].h)=false by simp,show (((xs[k].v.length:Int):Int) != (xs[k].v.length:Int))=false by simp];simp only [dJ,cond_false];refine gG (dL (r:=Fl.go ()) xs[k].v.length (fun j hj=>?_) ?_) rfl
   ·unfold lc;rw [dlt hj,cond_true,bq hj,ad,ad,cJ (by omega)];simp
   ·unfold lc;rw [bN]; rfl
  unfold fP;rw [dlt O,cond_true,bq O,ad,ad,e,cJ (by omega)]; rfl
 ·unfold fP;rw [bN]; rfl
theorem DV (t:List Int) (at_:Int) (patch:ByteArray):jc t at_ patch=some true:=by
 rcases gD 400 t.length with ht | ht
 ·unfold jc;rw [wF (by omega),ad,vg]; rfl
 refine H9 ?_;unfold jc;refine aG (yH ht) ?_;simp only [dJ,cond_false];refine aG (v:=bv.mk t 0) rfl (ai (Ff (d:=t) (i:=0) ⟨by omega,by omega,ht⟩ (by omega) (by omega)) fun u ⟨C,hB,hrev,hd⟩=>ai (xP C hB (by omega) hd) fun a ⟨a1,a2,hd2⟩=>?_);have hl:=C.high;have hb:=zu hl hB;have hv:=wX hB hl;obtain⟨ha,hs⟩:=Gj hl a1 a2;have hvl:=Er C (by omega) a2;have hsm:=yr hl hB;have hlen:=mD u.2.1;refine aG (xm hb hv) (aG (Fd ha (by omega) (by omega) hvl) (aG (qr hb hv) (aG (El ha (by omega) (by omega) hvl) ?_)));simp only [show ((0:Int) != 0)=false from rfl,cond_false];refine aG (A0 (b:=u.2.1) (hB.rm hl).1 (hB.rm hl).2.1) ?_;simp only [dJ,cond_false];refine aG (Fe (by omega) fun x hx=>(ha x hx).few) ?_;simp only [dJ,cond_false];generalize hD:o9 (BV (aV (gf u.2.1)))=D;have hDl:D.length=16:=by rw [<- hD]; rfl
 have hDb:Bh D:=by rw [<- hD]; exact IP _
 have hse:i8 (gf u.2.1)=aV (gf u.2.1++D):=by rw [wZ,hD]
 have hback:=qr hb hv;rw [hse] at hback ⊢;have hbo:=KS u.2.1;generalize hO:gf u.2.1=o at *;generalize hP:(cy patch).take 8=P;have hPl:P.length<=8:=by rw [<- hP,eS]; omega
 have hPb:Bh P:=by rw [<- hP]; exact fun x hx=>uF patch x (y4 hx)
 have hz:(aV (o++D)).size=o.length+16:=by rw [cg,bk,hDl]
 refine aG (v:=aV P) ?_ ?_
 ·have h1:=me (l:=cy patch) (a:=0) (b:=min patch.size 8) (bY _) (by rw [cP]; omega);rw [lS,yh] at h1;rw [show (min (patch.size:Int) 8)=((min patch.size 8:Nat):Int) by omega];have h2:(cy patch).take (min patch.size 8)=P:=by
   rw [<- hP,<- cP patch,Nat.min_comm,<- List.take_take,fW]
  rw [h2] at h1;exact h1
 rw [cg P,show IntKind.i64.wrap (((aV (o++D)).size:Int)-16)=(o.length:Int) by rw [hz,lU (by omega) (by omega)]; omega,show IntKind.i64.wrap ((o.length:Int)-(P.length:Int))=((o.length-P.length:Nat):Int) by rw [lU (by omega) (by omega)]; omega,show IntKind.i64.wrap (((o.length-P.length:Nat):Int)+1)=((o.length-P.length+1:Nat):Int) by rw [lU (by omega) (by omega)]; omega];obtain⟨i,hi,ei⟩:=FG at_ (m:=o.length-P.length+1) (by omega) (by omega);refine aG ei ?_;have hoi:i+P.length<=o.length:=by omega
 refine aG (v:=aV (o.take i)) ?_ ?_
 ·have h1:=me (l:=o++D) (a:=0) (b:=i) (bY _) (by rw [bk]; omega);rw [yh,List.take_append_of_le_length (by omega)] at h1;exact h1
 refine bC (sw (by simp only [cg,eS]; omega)) ?_;rw [lU (by omega) (by omega),show (i:Int)+(P.length:Int)=((i+P.length:Nat):Int) by omega];refine aG (v:=aV (o.drop (i+P.length)++D)) ?_ ?_
 ·have h1:=me (l:=o++D) (a:=i+P.length) (b:=(o++D).length) (by rw [bk]; omega) (cm _);rw [fW,List.drop_append_of_le_length hoi] at h1;rw [cg];exact h1
 refine bC (sw (by simp only [kz,cg,eS,bk,mO]; omega)) ?_;have ez:(aV (o.take i)++aV P)++aV (o.drop (i+P.length)++D)=aV ((o.take i++(P++o.drop (i+P.length)))++D):=by
  rw [eZ,eZ]; congr 1; simp only [fq]
 rw [ez];have eo:o=o.take i++((o.drop i).take P.length++o.drop (i+P.length)):=by
  conv=>lhs; rw [<- qV i o,<- qV P.length (o.drop i),List.drop_drop]
 have hol:(o.take i++(P++o.drop (i+P.length))).length=o.length:=by simp only [bk,eS,mO]; omega
 by_cases hPQ:P=(o.drop i).take P.length
 ·have e1:o.take i++(P++o.drop (i+P.length))=o:=by
   conv=>rhs; rw [eo]
   rw [<- hPQ]
  rw [e1];refine aG hback ?_;rw [beq_self_eq_true (aV (o++D)).toList];show Ok (dc.bind _) _;refine aG vg ?_;exact ae rfl
 ·have hQb:Bh ((o.drop i).take P.length):=fun x hx=>hbo x (A8 (y4 hx));have hne:aV (o9 (BV (aV (o.take i++(P++o.drop (i+P.length))))))≠aV D:=fun h=>by
   refine hPQ (Q0 (A:=o.take i) (C:=o.drop (i+P.length)) hPb hQb (by rw [eS,mO]; omega) hPl (by omega) ?_);rw [h,<- eo,hD]
  have hzs:(aV ((o.take i++(P++o.drop (i+P.length)))++D)).toList≠(aV (o++D)).toList:=fun h=>by
   have h1:=AF h;have h2:=Hb (gH (gH (fun x hx=>hbo x (y4 hx)) (gH hPb (fun x hx=>hbo x (A8 hx)))) hDb) (gH hbo hDb) h1;have h3:=List.append_inj_left h2 hol
   conv at h3=>rhs; rw [eo]
   have h4:=List.append_cancel_left h3;have h5:=List.append_inj_left h4 (by rw [eS,mO]; omega);exact hPQ h5
  refine aG (Ma (by omega) hDl hne) ?_;rw [beq_eq_false_iff_ne.2 hzs];rw [show (((46:Int)==0)==false)=true from rfl,cond_true,cond_false,show ((46:Int)==46)=true from rfl,cond_true];refine aG vg ?_;exact ae rfl
end
section
open Go.RowKit Go.ChangeShapes Go.WideShapes Go.ChangeAt
open Go.Lib hiding intOf
variable {W:World} {l:List (String×DataW Unit)}
theorem Qd:ownKnob Tryz.prog.godebug=none:=by kernel_rfl
theorem LaidVars.mem {P:Program} {w:World} {nm:String} {d:DataW Unit}:∀ {l:List (String×DataW Unit)} {ps:List MemPlace},DataW.LaidVars P w l ps->(nm,d)∈l ->
  ∃ g t cs fuel p,P.globalNamed nm=some g/\(P.globals[g]?).map (·.type)=some t/\w.var? P nm=some cs/\DataW.trod (fun _=>()) P w 0 (fun _=>true) false fuel t cs.toList=some (d,p)
 | [],_,_,hm=>by cases hm
 | (n1,d1)::l,ps,h,hm=>by
  obtain⟨g,t,cs,f,p,q,hg,ht,hv,hd,hq,_⟩:=h;rcases dX.1 hm with he | hm
  ·injection he with h1 h2;subst h1 h2;exact⟨g,t,cs,f,p,hg,ht,hv,hd⟩
  ·exact LaidVars.mem hq hm
theorem LM (h : laidMet aR l W) (hm : ("internal/strconv.uint64pow10", Lib.tabData .u64 pow10Tab) ∈ l) : TabIs aR W "internal/strconv.uint64pow10" .u64 pow10Tab := by
 obtain⟨ps, hl, _⟩ := h;obtain⟨g, t, cs, f, p, hg, ht, hv, hd⟩ := LaidVars.mem hl hm;obtain rfl := cC ((show Tryz.prog.globalNamed "internal/strconv.uint64pow10" = some 1 by kernel_rfl).symm.trans hg)
 obtain rfl:=cC ((show (Tryz.prog.globals[1]?).map (·.type)=some 343 by kernel_rfl).symm.trans ht);unfold TabIs;rw [hv,<- cells_of_tab Tryz.underlying343 Tryz.underlying103 (by kernel_rfl) (by kernel_rfl) hd]
theorem GQ (h:laidMet aR l W) {nm:String} {d:DataW Unit} {s:String} {g0:Nat} (hm:(nm,DataW.iface s d)∈l) (hg0:Tryz.prog.globalNamed nm=some g0) (ht0:(Tryz.prog.globals[g0]?).map (·.type)=some 241) :
  ∃ ev,W.cell? ⟨g0,0,none⟩=some ev/\(ev = .nilIface∨∃ te pe,ev = .iface te pe):=by
 obtain⟨ps,hl,_⟩:=h;obtain⟨g,t,cs,f,p,hg,ht,hv,hd⟩:=LaidVars.mem hl hm;obtain rfl:=cC (hg0.symm.trans hg);obtain rfl:=cC (ht0.symm.trans ht);obtain⟨_,u,v,hcs,_,_⟩:=iface_of_trod Tryz.underlying241 hd;refine⟨.iface u v,?_,.inr ⟨u,v,rfl⟩⟩;have:=World.var?_cell hg0 hv 0;rw [Array.eq_one_of_toList hcs] at this;simpa using this
theorem LT (h:laidMetH aR l W) (hp:(l.all fun x=>x.2.handleName?.isNone)=true)
  (h1 : ("internal/strconv.uint64pow10", Lib.tabData .u64 pow10Tab) ∈ l) (h2 : ("strconv.ErrSyntax", Rows.laid_strconv_ErrSyntax) ∈ l) (h3 : ("strconv.ErrRange", Rows.laid_strconv_ErrRange) ∈ l) : Lv W := by
 rw [MakeChecks.laidMetH_plain _ _ _ hp] at h;exact⟨GQ h h2 (by kernel_rfl) (by kernel_rfl),GQ h h3 (by kernel_rfl) (by kernel_rfl),LM h h1⟩
end
section
open Go.ChangeShapes Go.WideShapes Go.ChangeAt Go.RowKit Go.Deep Go.Joins
theorem Je {α:Type} {Q:Nat->α->Prop}:∀ (n:Nat),(∀ i,i<n->∃ x,Q i x)->∃ xs:List α,xs.length=n/\∀ i x,xs[i]? = some x->Q i x
 | 0,_=>⟨[],rfl,fun i x h=>by simp at h⟩
 | n+1,h=>by
  obtain⟨xs,h1,h2⟩:=Je n fun i hi=>h i (by omega);obtain⟨y,hy⟩:=h n (by omega);refine⟨xs++[y],by simp [h1],fun i x hx=>?_⟩;by_cases hi:i<xs.length
  ·rw [se hi] at hx; exact h2 i x hx
  ·have hl:=(cu.1 hx).1;simp only [bk,ip,sg] at hl;have:i=xs.length:=by omega
   subst this;rw [ua (cm _),xh] at hx;simp only [E7,cp] at hx;subst hx;rw [h1]; exact hy
def qW {α:Type} (P:Program) (t:TypeId) (R:aO α) (Q:α->Prop):Prop :=
 ∀ {H:Type} {enc:TypeId×Value->H} {w:World} {base n:Nat} {sp:Nat->Bool} {held:Bool} {cs:bK} {d:DataW H} {p:List MemPlace},DataW.trod enc P w base sp held n t cs=some (d,p)->(∀ m∈d.weights P t,m<=reachBytes)->∃ x,R.rel No w cs x/\Q x
section
variable {P:Program} {t e:TypeId}
theorem qW.int {k:IntKind} (ht:P.underlying t=some (.int k)):qW P t (aO.int k) (fun n=>(Lit.int k n).wf=true):=fun h _=>by
 obtain⟨n,rfl,_,hw⟩:=DataW.trod_int ht h;exact⟨n,rfl,hw⟩
theorem qW.bool (ht:P.underlying t=some .bool):qW P t aO.bool (fun _=>True):=fun h _=>by
 obtain⟨b,rfl,_⟩:=DataW.trod_bool ht h;exact⟨b,rfl,trivial⟩
theorem qW.str (ht:P.underlying t=some .string):qW P t aO.str (fun s=>s.size<=140737488355328):=fun h hw=>by
 obtain⟨s,rfl,hx,_⟩:=DataW.trod_string ht h;simp only [ze] at hx;obtain⟨rfl,rfl⟩:=hx;refine⟨s,rfl,?_⟩;have:=hw s.data.toList.length (by simp [DataW.weights]);have hr:reachBytes<=140737488355328:=by decide
 have hz:s.size=s.data.toList.length:=by rw [Array.length_toList]; rfl
 omega
theorem DB {H:Type}:∀ {ds:List (DataW H)} {i:Nat} {d:DataW H},ds[i]? = some d->∀ n∈d.weights P e,n∈DataW.weightsAll P e ds
 | [],_,_,h,_,_=>by simp at h
 | d0::r,0,d,h,n,hn=>by
  simp only [E7,cp] at h;subst h;simp only [DataW.weightsAll,dw];exact .inl hn
 | d0::r,i+1,d,h,n,hn=>by
  simp only [E6] at h;simp only [DataW.weightsAll,dw];exact .inr (DB h n hn)
theorem qW.slice {α:Type} {R:aO α} {Q:α->Prop} (ht:P.underlying t=some (.slice e)) (hc:P.cellsOf e=R.size) (hs:0<R.size) (ho:qW P e R Q):qW P t (aO.slice R) (fun xs=>(∀ x∈xs,Q x)/\xs.length*P.bytesOf e<=reachBytes/\xs.length<=maxLen):=fun {H enc w base n sp held cs d p} h hw=>by
 rcases open_slice ht h with⟨rfl,hx⟩|⟨a,len,cap,m,n,D,Pl,rfl,hb,hl,hm,hmm,hx,hi⟩
 ·exact⟨[],⟨_,rfl,aI.nil_ _ _ _⟩,fun x hx=>by simp at hx,by simp,by simp⟩
 ·simp only [ze] at hx;obtain⟨rfl,rfl⟩:=hx;have hlm:len<=m:=by rw [hmm]; split <;> omega
  obtain⟨xs,h1,h2⟩:=Je (α:=α) (Q:=fun i x=>Q x/\∃ cs,R.rel No w cs x/\∀ j u,cs[j]? = some u->w.cell? (a.add (i*R.size+j))=some u) len (fun i hil=>by
   obtain⟨cs',hcc,ht'⟩:=hi i (by omega);rw [hc] at hcc;obtain⟨x,hx,hq⟩:=ho ht' (fun k O=>hw k (by
    simp only [DataW.weights,ht,dX,dw];exact .inr (.inl (DB (i:=i) (d:=D i) (by rw [sf,List.getElem?_range hil]; rfl) k O))))
   obtain⟨_,hcl,hat⟩:=World.cells?_some hcc;refine⟨x,hq,cs',hx,fun j u hu=>?_⟩;have hj:j<R.size:=by rw [<- hcl]; exact (cu.1 hu).1
   rw [<- Go.Deep.add_add,hat j hj,hu])
  subst h1;refine⟨xs,⟨_,rfl,some a,cap,rfl,hl,hm,?_⟩,fun x hx=>?_,?_,cN hl hm⟩
  ·cases xs with
   | nil=>exact .inl rfl
   | cons x0 xs =>
    right;obtain⟨_,cs0,hr0,hc0⟩:=h2 0 x0 rfl;have hl0:=R.len hr0;have hu:=hc0 0 _ (cH (show 0<cs0.length by omega));obtain⟨b,off,spot⟩:=a;have hsp:spot=none:=by
     unfold World.cell? at hu;split at hu
     ·cases spot with
      | none=>rfl
      | some q=>simp [Addr.add] at hu
     ·simp at hu
    subst hsp;refine⟨b,off,rfl,fun k x hx=>?_⟩;obtain⟨_,cs,hr,hcs⟩:=h2 k x hx;refine⟨cs,hr,fun h=>h,?_,fun j u hu=>?_⟩
    ·rw [Addr.add_lit] at hu; exact World.block_lt_of_cell? _ _ hu
    ·have:=hcs j u hu;rwa [Addr.add_lit,<- y5] at this
  ·obtain⟨i,hi',e⟩:=JR hx;exact (h2 i x (by rw [<- e]; exact cH hi')).1
  ·have:=hw ((xs.length+(m-xs.length))*P.bytesOf e) (by
    simp only [DataW.weights,ht,dX,oz,BC]
    first | exact .inl trivial | exact .inl rfl | trivial)
   exact cN (nY _ (by omega)) this
theorem qW.arg {α:Type} {R:aO α} {Q:List α->Prop} {H:Type} {enc:TypeId×Value->H} {w:World} {base:Nat} {sp:Nat->Bool} {held:Bool} {v:Value} {d:DataW H} {p:List MemPlace} {ts:List TypeId} {ds:List (DataW H)} {j0:Nat}
  (ho:qW P t (aO.slice R) Q) (ht:P.underlying t=some (.slice e)) (hsz:(DataW.weightsEach P ts ds).all (·<=reachBytes)=true) (htj:ts[j0]? = some t) (hdj:ds[j0]? = some d)
  {r:Reach} {b0:Nat} (hv:Value.okWide P w r b0 t v) (h:DataW.Trod enc P w base sp held t v d p):∃ xs,aI R No w v xs/\Q xs:=by
 obtain⟨A,len,cap,rfl⟩:=okWide_slice ht hv;obtain⟨fuel,hf⟩:=h;obtain⟨xs,⟨v',he,hs⟩,hq⟩:=ho hf (fun m hm=>by
  have:=List.all_eq_true.1 hsz m (DataW.weights_mem_each htj hdj m hm);simpa using this)
 simp only [Value.cells,List.cons.injEq,and_true] at he;subst he;exact⟨xs,hs,hq⟩
end
end
section
open Go.ChangeShapes Go.WideShapes Go.ChangeAt Go.RowKit Go.Deep Go.Joins
variable {α:Type} {Q:α->Prop} {R:aO α}
def aO.unit:aO Unit where
 size:=0
 rel:=fun _ _ cs _=>cs=[]
 len:=by rintro _ _ _ _ rfl; rfl
 one:=by rintro _ _ _ _ rfl u hu; cases hu
 keep:=fun h _ _=>h
def sh (P:Program) (fs:List Field) (off:Nat) (R:aO α) (Q:α->Prop):Prop :=
 (∀ f∈fs,off<=f.offset) /\
 ∀ {H:Type} {enc:TypeId×Value->H} {w:World} {base n:Nat} {sp:Nat->Bool} {held:Bool} {cs:bK} {xs:List (DataW H×List MemPlace)},cs.length=R.size->xs.length=fs.length ->
  (∀ (i:Nat) (f:Field),fs[i]? = some f->DataW.trod enc P w base sp held n f.type ((cs.drop (f.offset-off)).take (P.cellsOf f.type))=xs[i]?) ->
  (∀ m∈DataW.weightsEach P (fs.map (·.type)) (xs.map (·.1)),m<=reachBytes)->∃ x,R.rel No w cs x/\Q x
section
variable {P:Program} {t:TypeId}
theorem sh.nil (off:Nat):sh P [] off aO.unit (fun _=>True) :=
 ⟨fun f hf=>(by cases hf),fun {H enc w base n sp held cs xs} hl _ _ _=>⟨(),DH hl,trivial⟩⟩
theorem sh.cons {β:Type} {S:aO β} {Q2:β->Prop} {f:Field} {fs:List Field} {off:Nat} (ho:qW P f.type R Q) (hf:f.offset=off) (hc:P.cellsOf f.type=R.size) (h:sh P fs (off+R.size) S Q2):sh P (f::fs) off (R.prod S) (fun x=>Q x.1/\Q2 x.2):=by
 refine⟨fun g hg=>?_,fun {H enc w base n sp held cs xs} hl hx ht hw=>?_⟩
 ·rcases dX.1 hg with rfl | hg
  ·omega
  ·have:=h.1 g hg; omega
 ·cases xs with
  | nil=>simp at hx
  | cons y xs =>
   have hl:cs.length=R.size+S.size:=hl;have h0:=ht 0 f rfl;rw [hf,xh,yh,hc] at h0;obtain⟨x1,k1,k2⟩:=ho h0 (fun m hm=>hw m (by simp only [yk,DataW.weightsEach,dw]; exact .inl hm));obtain⟨x2,k3,k4⟩:=h.2 (H:=H) (enc:=enc) (w:=w) (base:=base) (n:=n) (sp:=sp) (held:=held) (cs:=cs.drop R.size) (xs:=xs) (by rw [mO]; omega) (by simpa using hx) (fun i g hg=>by
    have h1:=ht (i+1) g (by simpa using hg);have h2:=h.1 g (aD hg);rw [List.drop_drop,show R.size+(g.offset-(off+R.size))=g.offset-off by omega];simpa using h1) (fun m hm=>hw m (by simp only [yk,DataW.weightsEach,dw]; exact .inr hm))
   exact⟨(x1,x2),⟨cs.take R.size,cs.drop R.size,(qV _ _).symm,k1,k3⟩,k2,k4⟩
theorem qW.struct {fs:Array Field} (ht:P.underlying t=some (.struct fs)) (hc:P.cellsOf t=R.size) (h:sh P fs.toList 0 R Q):qW P t R Q:=fun {H enc w base n sp held cs d p} h0 hw=>by
 obtain⟨xs,m,_,hx,hl,hlen,hf⟩:=DataW.trod_struct ht h0;simp only [ze] at hx;obtain⟨rfl,rfl⟩:=hx;refine h.2 (H:=H) (enc:=enc) (w:=w) (base:=base) (n:=m) (sp:=sp) (held:=held) (xs:=xs) (hl.trans hc) (by simpa using hlen) (fun i f hi=>?_) (fun k O=>hw k ?_)
 ·have:=hf i f (by simpa using hi);simpa using this
 ·simp only [DataW.weights,ht];exact O
theorem qW.via {β:Type} {S:aO β} {Q2:β->Prop} (ho:qW P t R Q) (g:α->β) (hr:∀ (T:Nat->Prop) (w:World) (cs:bK) (x:α),R.rel T w cs x->S.rel T w cs (g x)) (hq:∀ x,Q x->Q2 (g x)):qW P t S Q2:=fun h hw=>by
 obtain⟨x,h1,h2⟩:=ho h hw;exact⟨g x,hr _ _ _ _ h1,hq _ h2⟩
theorem qW.argS {H:Type} {enc:TypeId×Value->H} {w:World} {base:Nat} {sp:Nat->Bool} {held:Bool} {v:Value} {d:DataW H} {p:List MemPlace} {ts:List TypeId} {ds:List (DataW H)} {j0:Nat} {fs:Array Field}
  (ho:qW P t R Q) (ht:P.underlying t=some (.struct fs)) (hsz:(DataW.weightsEach P ts ds).all (·<=reachBytes)=true) (htj:ts[j0]? = some t) (hdj:ds[j0]? = some d)
  {r:Reach} {b0:Nat} (hv:Value.okWide P w r b0 t v) (h:DataW.Trod enc P w base sp held t v d p):∃ (cs:bK) (x:α),v = .agg cs.toArray/\R.rel No w cs x/\Q x:=by
 obtain⟨cs,rfl,hcs⟩:=okWide_struct ht hv;obtain⟨fuel,hf⟩:=h;obtain⟨x,hs,hq⟩:=ho hf (fun m hm=>by
  have:=List.all_eq_true.1 hsz m (DataW.weights_mem_each htj hdj m hm);simpa using this)
 exact⟨cs.toList,x,by simp,hs,hq⟩
end
end
end Go.Proofs.YtcpplgcgcbihoaaGreatDoor
