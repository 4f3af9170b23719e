/- Texts of the proof, joined (3). -/
import Derived.Test.YtcpplgcgcbihoaaGreatDoorA2
import Derived.Test.YtcpplgcgcbihoaaGreatDoorA1
set_option linter.unusedVariables false
set_option linter.unusedSimpArgs false
set_option linter.unusedSectionVars false
namespace Go.Proofs.YtcpplgcgcbihoaaGreatDoor
open Go.RowKit
section
open Go.Lib hiding intOf
variable {l:List au} {r:au}
def Ee (l:List ae):Prop:=l.Pairwise fun a b=>cc a b<0
theorem FP:∀ {a b:List ae},Ee a->Ee b->(∀ x,x∈a↔x∈b)->a=b
 | [],[],_,_,_=>rfl
 | [],y::b,_,_,h=>by have:=(h y).2 kh; cases this
 | x::a,[],_,_,h=>by have:=(h x).1 kh; cases this
 | x::a,y::b,ha,hb,h=>by
  have ha':=ow.1 ha;have hb':=ow.1 hb;have e:x=y:=by
   rcases cI.1 ((h x).1 kh) with e | h1
   ·exact e
   ·rcases cI.1 ((h y).2 kh) with e | h2
    ·exact e.symm
    ·exact absurd (hb'.1 x h1) (Dz (ha'.1 y h2))
  subst e;rw [FP ha'.2 hb'.2 fun z=>?_];constructor
  ·intro hz;rcases cI.1 ((h z).1 (uR _ hz)) with e | h1
   ·subst e; exact absurd (ha'.1 z hz) BM
   ·exact h1
  ·intro hz;rcases cI.1 ((h z).2 (uR _ hz)) with e | h1
   ·subst e; exact absurd (hb'.1 z hz) BM
   ·exact h1
structure vJ (l m:List ae):Prop where
 asc:Ee m
 mem:∀ x,x∈m↔x∈l
 len:m.length<=l.length
def L7 (l:List au):Prop:=Rm l.length/\∀ r∈l,Rm r.k.length
def Ec (l:List au):Prop:=l.Pairwise fun a b=>cc a.d b.d<0
def gp (l:List au) (r:au):List au:=(l.filter fun x=>decide (cc x.d r.d<0))++r::(l.filter fun x=>decide (0<cc x.d r.d))
theorem zQ (a:ae):dt a a=true:=dM.2 rfl
theorem DA (a b:ae):dt a b=dt b a:=by
 by_cases h:a=b
 ·rw [h]
 ·rw [wS.2 h,wS.2 fun e=>h e.symm]
def RY:au:=⟨⟨0,⟨#[]⟩⟩,⟨#[]⟩,[],0,0,0,false⟩
def bc (l:List au) (k:ae):au×Bool:=match l.find? (fun r=>dt r.d k) with | some r=>(r,true) | none=>(RY,false)
theorem Ih {α:Type} {p:α->Bool} {l:List α} {k:Nat} {x:α} (h1:l[k]? = some x) (h2:p x=true) (h3:∀ j z,j<k->l[j]? = some z->p z=false):l.find? p=some x:=by
 obtain⟨h,e⟩:=bS.1 h1;have:l=l.take k++x::l.drop (k+1):=by rw [<- e]; simp
 rw [this,List.find?_append,List.find?_cons_of_pos h2];have:(l.take k).find? p=none:=by
  rw [CD];intro z hz;obtain⟨j,hj⟩:=iD.1 hz;rw [rL] at hj;split at hj
  ·rename_i hjk;rw [h3 j z hjk hj]; simp
  ·cases hj
 rw [this]; rfl
theorem oP (a b:ae):jN a b=some (cc a b):=by
 unfold jN cc r8;by_cases h1:a.v<b.v
 ·simp [h1]
 ·by_cases h2:b.v<a.v <;> simp [h1,h2]
theorem sD (h:Rm r.k.length):gD r=some r:=by
 unfold gD Rm at *;rw [show bP (([]:List ae).length+r.k.length)=true from du (by simp; omega)]; rfl
theorem DQ (h:Ec l) (hl:Rm l.length) (hr:Rm r.k.length):mO l r=some (gp l r):=by
 unfold Rm at hl;have hpl:∀ i,((l.take i).filter fun x=>decide (cc x.d r.d<0)).length+((l.take i).filter fun x=>decide (0<cc x.d r.d)).length<=l.length:=fun i=>by
  have h1:∀ m:List au,(m.filter fun x=>decide (cc x.d r.d<0)).length+(m.filter fun x=>decide (0<cc x.d r.d)).length<=m.length:=by
   intro m
   induction m with
   | nil=>simp
   | cons y m ih =>
    by_cases a:cc y.d r.d<0
    ·rw [uP (by simpa using a),rK (by simp; omega)]; simp only [eS]; omega
    ·by_cases b:0<cc y.d r.d
     ·rw [rK (by simpa using a),uP (by simpa using b)]; simp only [eS]; omega
     ·rw [rK (by simpa using a),rK (by simpa using b)]; simp only [eS]; omega
  have:=h1 (l.take i);rw [je] at this; omega
 have key:Ok (mO l r) fun y=>y=gp l r:=by
  unfold mO;refine bz (fun n t=>n<=l.length/\t.2.2=(n:Int)/\((t.1=l.take n/\t.2.1=false/\∀ x∈l.take n,cc x.d r.d<0)∨(t.1=gp (l.take n) r/\t.2.1=true/\∃ x∈l.take n,¬ cc x.d r.d<0)))
   (fun t=>(t.1=l/\t.2=false/\∀ x∈l,cc x.d r.d<0)∨(t.1=gp l r/\t.2=true)) l.length ⟨bT _,rfl,.inl ⟨rfl,rfl,by simp⟩⟩ (fun n t hn hI=>?_) (fun t ht=>?_)
  ·obtain⟨out,put,i⟩:=t;obtain⟨_,h1,h2⟩:=hI;dsimp only at h1 h2;subst h1;unfold rV;dsimp only;by_cases hi:n<l.length
   ·have hx:l[n]? = some l[n]:=bA hi;obtain⟨x,hxe⟩:∃ x,x=l[n]:=⟨_,rfl⟩;rw [<- hxe] at hx;rw [dlt hi,cond_true,bx,hx,ax,oP,ax];have tk:=bV hx;have hle:=hpl n;rcases h2 with⟨rfl,rfl,h3⟩|⟨rfl,rfl,y,hy,h3⟩
    ·have e0:((l.take n).filter fun x=>decide (cc x.d r.d<0))=l.take n:=xF.2 fun x hx=>by simpa using h3 x hx
     have e1:((l.take n).filter fun x=>decide (0<cc x.d r.d))=[]:=GN.2 fun x hx=>by have:=h3 x hx; simp; omega
     rcases sP x.d r.d with hc | hc | hc
     ·rw [hc];unfold iY iX iW;rw [show bP ((l.take n).length+[x].length)=true from du (by simp; omega),cH (by omega)];refine ai ⟨hi,hi,rfl,.inl ⟨tk.symm,rfl,fun z hz=>?_⟩⟩;rw [tk] at hz;rcases cD.1 hz with hz | hz
      ·exact h3 z hz
      ·simp only [cI,cJ,or_false] at hz; subst hz; omega
     ·rw [hc];unfold iY iX iW;rw [sD hr,cH (by omega)];simp only [ax];rw [show bP ((l.take n).length+[r].length)=true from du (by simp; omega)];refine ai ⟨hi,hi,rfl,.inr ⟨?_,rfl,x,by rw [tk]; simp,by omega⟩⟩;unfold gp;rw [tk,pZ,pZ,e0,e1];simp [hc]
     ·rw [hc];unfold iY iX iW;rw [sD hr,cH (by omega)];simp only [ax];rw [show bP ((l.take n).length+[r].length)=true from du (by simp; omega),show bP ((l.take n++[r]).length+[x].length)=true from du (by simp; omega)];refine ai ⟨hi,hi,rfl,.inr ⟨?_,rfl,x,by rw [tk]; simp,by omega⟩⟩;unfold gp;rw [tk,pZ,pZ,e0,e1];simp [hc]
    ·have hyx:cc y.d x.d<0:=by
      obtain⟨j,hj⟩:=iD.1 hy;rw [rL] at hj;split at hj
      ·rename_i hjn;obtain⟨q1,q2⟩:=bS.1 hj;have:=eI.1 h j n q1 hi hjn;rw [q2,<- hxe] at this; exact this
      ·cases hj
     have hc:0<cc x.d r.d:=by
      rw [o7];exact ny (b:=y.d) h3 hyx
     have hc1:cc x.d r.d=1:=by rcases sP x.d r.d with h | h | h <;> omega
     rw [hc1];unfold iY iX iW;rw [cH (by omega),show bP ((gp (l.take n) r).length+[x].length)=true from du (by unfold gp; simp only [cS,eS,vS]; omega)];refine ai ⟨hi,hi,rfl,.inr ⟨?_,rfl,y,by rw [tk]; exact iB _ hy,h3⟩⟩;unfold gp;rw [tk,pZ,pZ];simp [hc1]
   ·have hn2:n=l.length:=by omega
    rw [hn2,bZ,cond_false];rw [hn2,gz] at h2;refine ai ?_;rcases h2 with⟨a,b,c⟩|⟨a,b,c⟩
    ·exact .inl ⟨a,b,c⟩
    ·exact .inr ⟨a,b⟩
  ·obtain⟨out,put⟩:=t;dsimp only at ht;unfold pr pq;rcases ht with⟨rfl,rfl,h3⟩|⟨rfl,rfl⟩
   ·rw [sD hr];simp only [nO,cond_true,ax];rw [show bP (out.length+[r].length)=true from du (by simp; omega)];refine ai ?_;unfold gp;rw [xF.2 fun x hx=>by simpa using h3 x hx,GN.2 fun x hx=>by have:=h3 x hx; simp; omega]
   ·exact ai rfl
 obtain⟨y,e,rfl⟩:=key;exact e
theorem xB {l:List ae} (h:Rm l.length):jR l l=some true:=by
 unfold Rm at h;unfold jR;rw [show ((l.length:Int) != (l.length:Int))=false by simp,cond_false];refine iq (em (xs:=l) (fun i=>(i:Int)) rfl (r:=.go ()) (fun i x hx=>?_) ?_) rfl
 ·unfold iU;rw [m9 hx,cond_true,bx,hx,ax,ax,cH (by have:=aY hx; omega)];show cond (!dt x x) _ _=_;rw [zQ]; rfl
 ·unfold iU;rw [bZ]; rfl
theorem K5 {x:au} (h:x∈gp l r):x∈l∨x=r:=by
 unfold gp at h;rcases cD.1 h with h | h
 ·exact .inl (iC.1 h).1
 ·rcases cI.1 h with h | h
  ·exact .inr h
  ·exact .inl (iC.1 h).1
theorem Gc (h:Ec l) (r:au):Ec (gp l r):=by
 unfold Ec gp;rw [td];refine⟨GK _ h,ow.2 ⟨fun x hx=>?_,GK _ h⟩,fun x hx y hy=>?_⟩
 ·have:=(iC.1 hx).2;simp only [decide_eq_true_eq] at this;exact o7.1 this
 ·have h1:=(iC.1 hx).2;simp only [decide_eq_true_eq] at h1;rcases cI.1 hy with rfl | hy
  ·exact h1
  ·have h2:=(iC.1 hy).2;simp only [decide_eq_true_eq] at h2;exact lI h1 (o7.1 h2)
theorem vy (hl:L7 l) (k:ae):cm l k=some (bc l k):=by
 have h1:=hl.1;unfold Rm at h1;unfold cm;have key:=vj (B:=fun t:Int=>jm l k t) (xs:=l) (fun r=>dt r.d k) (fun i=>(i:Int)) (s0:=0) rfl (y:=fun i x=>Fl.out (x,true)) (n:=Fl.go ()) (fun i x hx hp=>by
   unfold jm;rw [m9 hx,cond_true,bx,hx,ax,cH (by have:=aY hx; omega)];show cond (dt x.d k) _ _=_;rw [hp]; rfl) (fun i x hx hp=>by
   unfold jm;rw [m9 hx,cond_true,bx,hx,ax];show cond (dt x.d k) _ _=_;rw [hp,sD (hl.2 x (aO hx))]; rfl) (by
   unfold jm;rw [bZ]; rfl)
 unfold bc;rcases key with⟨i,x,h1,h2,h3,h4⟩|⟨h1,h2⟩
 ·rw [h4,Ih (p:=fun r=>dt r.d k) h1 h2 h3]; rfl
 ·rw [h2,show l.find? (fun r=>dt r.d k)=none from CD.2 fun x hx=>by rw [h1 x hx]; simp]; rfl
theorem uB {l:List ae} (hl:Rm l.length) (k:ae):jO l k=some (l.any fun x=>dt k x):=by
 unfold Rm at hl;unfold jO;refine iq (BQ (xs:=l) (fun x=>dt k x) (fun i=>(i:Int)) rfl (y:=Fl.out true) (n:=Fl.go ()) (fun i x hx hp=>?_) (fun i x hx hp=>?_) ?_) ?_
 ·unfold mL;rw [m9 hx,cond_true,bx,hx,ax,cH (by have:=aY hx; omega)];show cond (dt x k) _ _=_;rw [DA,hp]; rfl
 ·unfold mL;rw [m9 hx,cond_true,bx,hx,ax];show cond (dt x k) _ _=_;rw [DA,hp]; rfl
 ·unfold mL;rw [bZ]; rfl
 ·cases l.any fun x=>dt k x <;> rfl
theorem My {out:List ae} (h:Ee out) {i:Nat} {k:ae} (h1:∀ y∈out.take i,cc y k<0) (h2:∀ y∈out.drop i,cc k y<0):Ee (out.take i++[k]++out.drop i):=by
 unfold Ee at *;rw [CC,td];refine⟨h.sublist (List.take_sublist _ _),ow.2 ⟨fun y hy=>h2 y hy,h.sublist (List.drop_sublist _ _)⟩,fun a ha b hb=>?_⟩;rcases cI.1 hb with rfl | hb
 ·exact h1 a ha
 ·exact lI (h1 a ha) (h2 b hb)
theorem Mz {out:List ae} {i:Nat} {k x:ae}:x∈out.take i++[k]++out.drop i↔x∈out∨x=k:=by
 conv=>rhs; rw [<- E0 i out]
 simp only [cD,cI,cJ,or_false];constructor
 ·rintro ((h | h) | h)
  ·exact .inl (.inl h)
  ·exact .inr h
  ·exact .inl (.inr h)
 ·rintro ((h | h) | h)
  ·exact .inl (.inl h)
  ·exact .inr h
  ·exact .inl (.inr h)
theorem xA {l:List ae} (hl:Rm l.length):∃ m,ko l=some m/\vJ l m:=by
 unfold Rm at hl;have key:Ok (ko l) fun m=>vJ l m:=by
  unfold ko;refine bz (fun n s=>s.2=(n:Int)/\n<=l.length/\vJ (l.take n) s.1) (fun r=>vJ l r) l.length ⟨rfl,bT _,pY,fun x=>by simp,by simp⟩ (fun n s hn hI=>?_) (fun r hr=>ai hr);obtain⟨out,g⟩:=s;obtain⟨h1,h2,h3⟩:=hI;dsimp only at h1 h3;subst h1;have hol:=h3.len;rw [je] at hol;unfold nW;dsimp only;by_cases hi:n<l.length
  ·have hx:l[n]? = some l[n]:=bA hi;obtain⟨k,O⟩:∃ k,k=l[n]:=⟨_,rfl⟩;rw [<- O] at hx;rw [dlt hi,cond_true,bx,hx,ax];have stay:k∈out->vJ (l.take (n+1)) out:=fun hm=>⟨h3.asc,fun x=>by
    rw [bV hx,cD,h3.mem];constructor
    ·exact .inl
    ·rintro (h | h)
     ·exact h
     ·simp only [cI,cJ,or_false] at h;subst h; exact (h3.mem _).1 hm,by rw [je]; omega⟩
   have put:∀ i:Nat,i<=out.length->(∀ y∈out.take i,cc y k<0)->(∀ y∈out.drop i,cc k y<0)->vJ (l.take (n+1)) (out.take i++[k]++out.drop i):=fun i hio q1 q2=>⟨My h3.asc q1 q2,fun x=>by
    rw [Mz,bV hx,cD,h3.mem];simp,by simp only [cS,je,tI,eS,vS]; omega⟩
   have j3:∀ i:Nat,i<=out.length->(∀ y∈out.take i,cc y k<0)->(∀ y∈out.drop i,cc k y<0)->Ok (eO out (n:Int) k (i:Int) true) fun r=>match r with
     | .go s'=>n<l.length/\s'.2=((n+1:Nat):Int)/\n+1<=l.length/\vJ (l.take (n+1)) s'.1
     | .out r=>vJ l r:=fun i hio q1 q2=>by
    unfold eO iH;rw [cond_true,qo hio,ax,vA hio,ax,cH (by omega)];have r1:bP (([]:List ae).length+(out.take i).length)=true:=du (by simp; omega);have r2:bP ((([]:List ae)++out.take i).length+[k].length)=true:=du (by simp; omega);have r3:bP (((([]:List ae)++out.take i)++[k]).length+(out.drop i).length)=true:=du (by simp; omega);rw [r1,r2,r3];simp only [gd,cond_true,vH];exact ai ⟨hi,rfl,hi,put i hio q1 q2⟩
   have inner:=vj (B:=fun t:Int=>fW out k t) (xs:=out) (fun y=>!decide (cc y k<0)) (fun i=>(i:Int)) (s0:=0) rfl (y:=fun i _=>(i:Int)) (n:=(out.length:Int)) (fun i y hy hp=>by
     unfold fW;simp only [Bool.not_eq_false'] at hp;rw [m9 hy,cond_true,bx,hy,ax,oP,ax,hp,cond_true,cH (by have:=aY hy; omega)]) (fun i y hy hp=>by
     unfold fW;simp only [uN] at hp;rw [m9 hy,cond_true,bx,hy,ax,oP,ax,hp,cond_false]) (by
     unfold fW;rw [bZ]; rfl)
   rcases inner with⟨i,y,a1,a2,a3,a4⟩|⟨a1,a2⟩
   ·rw [a4,ax];have hio:=aY a1;have hge:¬ cc y k<0:=by simpa using a2
    have hb:∀ z∈out.take i,cc z k<0:=fun z hz=>by
     obtain⟨j,hj⟩:=iD.1 hz;rw [rL] at hj;split at hj
     ·rename_i hji;simpa using a3 j z hji hj
     ·cases hj
    unfold kS;rw [show ((i:Int)==(out.length:Int))=false from by simp; omega,cond_false,bx,a1,ax];show Ok (eO out (n:Int) k (i:Int) (!dt y k)) _;cases hq:dt y k
    ·rw [nO];refine (j3 i (by omega) hb fun z hz=>?_).mono fun y hy=>by cases y <;> exact hy
     have hyk:cc k y<0:=by
      rcases um y k with h | h | h
      ·exact absurd h hge
      ·exact absurd h (wS.1 hq)
      ·exact h
     obtain⟨j,hj⟩:=iD.1 hz;rw [tH] at hj;obtain⟨q1,q2⟩:=bS.1 hj;obtain⟨q3,q4⟩:=bS.1 a1;by_cases hj0:j=0
     ·subst hj0;rw [ox,a1] at hj;injection hj with hj;rw [<- hj]; exact hyk
     ·have:=eI.1 h3.asc i (i+j) q3 q1 (by omega);rw [q4,q2] at this;exact lI hyk this
    ·unfold eO iH;rw [dC,cond_false,cH (by omega)];exact ai ⟨hi,rfl,hi,stay (by rw [<- dM.1 hq]; exact aO a1)⟩
   ·rw [a2,ax];unfold kS;rw [beq_self_eq_true,cond_true];refine (j3 out.length (bX _) (fun z hz=>?_) (fun z hz=>by rw [GM] at hz; cases hz)).mono fun y hy=>by cases y <;> exact hy
    rw [gz] at hz;simpa using a1 z hz
  ·rw [Hm hi,cond_false];have:n=l.length:=by omega
   subst this;rw [gz] at h3;exact ai h3
 obtain⟨m,e,h⟩:=key;exact⟨m,e,h⟩
end
section
open Go.Lib hiding intOf
variable {α:Type} {E:α->α->Prop} {T:List ae} {r x:ae} {z:α}
instance Sv:DecidableEq ae:=fun a b=>decidable_of_iff (dt a b=true) dM
inductive gI {α:Type} (E:α->α->Prop) (x:α):α->Prop
 | refl:gI E x x
 | snoc {y z:α}:gI E x y->E y z->gI E x z
theorem gI.trans {x y:α} (h:gI E x y) (k:gI E y z):gI E x z:=by
 induction k with
 | refl=>exact h
 | snoc _ e ih=>exact .snoc ih e
theorem gI.head {x y:α} (h:E x y) (k:gI E y z):gI E x z:=(gI.snoc .refl h).trans k
def GY (E:α->α->Prop) (x z:α):Prop:=∃ y,gI E x y/\E y z
theorem GY.star {x:α} (h:GY E x z):gI E x z:=by obtain⟨y,h1,h2⟩:=h; exact .snoc h1 h2
theorem gI.plus {x:α} (h:gI E x z) (hne:x≠z):GY E x z:=by
 cases h with
 | refl=>exact absurd rfl hne
 | snoc h1 h2=>exact⟨_,h1,h2⟩
theorem oE {α:Type}:∀ {l m:List α},l.Nodup->(∀ x∈l,x∈m)->l.length<=m.length
 | [],m,_,_=>bT _
 | x::l,m,h,hs=>by
  have h':=Am.1 h;obtain⟨a,b,rfl⟩:=List.append_of_mem (hs x kh);have:=oE (l:=l) (m:=a++b) h'.2 fun y hy=>by
   have h1:=hs y (uR _ hy);rw [cD,cI] at h1;rw [cD];rcases h1 with h1 | rfl | h1
   ·exact .inl h1
   ·exact absurd hy h'.1
   ·exact .inr h1
  simp only [eS,cS] at this ⊢;omega
theorem dI:∀ a b:ae,aK a b=true↔a=b:=fun a b=>dM (a:=a) (b:=b)
theorem K6 {m:List (ae×Bool)} {M:List ae} (h:∀ x,(cF aK x m).getD false=decide (x∈M)) (e:ae):∀ x,(cF aK x (dS aK e true m)).getD false=decide (x∈M++[e]):=fun x=>by
 rw [kR dI];by_cases hx:x=e
 ·subst hx; rw [if_pos ((dI _ _).2 rfl)]; simp
 ·rw [if_neg (fun h=>hx ((dI _ _).1 h)),h]; simp [hx]
section
variable {succ:ae->List ae} {filt:ae->Bool}
def GW (succ:ae->List ae) (filt:ae->Bool) (T:List ae) (i g:Nat) (x r:ae):Prop :=
 ∃ j,T[j]? = some x/\filt r=true/\((j<i/\r∈succ x)∨(j=i/\r∈(succ x).take g))
theorem GW.grow {T':List ae} {i g:Nat} (hi:i<T.length):GW succ filt (T++T') i g x r↔GW succ filt T i g x r:=by
 constructor
 ·rintro⟨j,h1,h2,h3⟩;rw [m4 (by omega)] at h1;exact⟨j,h1,h2,h3⟩
 ·rintro⟨j,h1,h2,h3⟩;exact⟨j,by rw [m4 (by omega)]; exact h1,h2,h3⟩
theorem GW.step {i g:Nat} {c e:ae} (hc:T[i]? = some c) (he:(succ c)[g]? = some e):GW succ filt T i (g+1) x r↔GW succ filt T i g x r∨(x=c/\r=e/\filt e=true):=by
 constructor
 ·rintro⟨j,h1,h2,h3 | ⟨rfl,h3⟩⟩
  ·exact .inl ⟨j,h1,h2,.inl h3⟩
  ·rw [hc] at h1;injection h1 with h1;subst h1;rw [bV he,cD,bK] at h3;rcases h3 with h3 | rfl
   ·exact .inl ⟨j,hc,h2,.inr ⟨rfl,h3⟩⟩
   ·exact .inr ⟨rfl,rfl,h2⟩
 ·rintro (⟨j,h1,h2,h3 | ⟨rfl,h3⟩⟩|⟨rfl,rfl,h⟩)
  ·exact⟨j,h1,h2,.inl h3⟩
  ·rw [hc] at h1;injection h1 with h1;subst h1;exact⟨j,hc,h2,.inr ⟨rfl,by rw [bV he]; exact iB _ h3⟩⟩
  ·exact⟨i,hc,h,.inr ⟨rfl,by rw [bV he]; simp⟩⟩
theorem GW.next {i:Nat} {c:ae} (hc:T[i]? = some c):GW succ filt T i (succ c).length x r↔GW succ filt T (i+1) 0 x r:=by
 constructor
 ·rintro⟨j,h1,h2,h3 | ⟨rfl,h3⟩⟩
  ·exact⟨j,h1,h2,.inl ⟨by omega,h3.2⟩⟩
  ·rw [hc] at h1;injection h1 with h1;subst h1;rw [gz] at h3;exact⟨j,hc,h2,.inl ⟨by omega,h3⟩⟩
 ·rintro⟨j,h1,h2,h3 | ⟨rfl,h3⟩⟩
  ·by_cases hj:j=i
   ·subst hj;rw [hc] at h1;injection h1 with h1;subst h1;exact⟨j,hc,h2,.inr ⟨rfl,by rw [gz]; exact h3.2⟩⟩
   ·exact⟨j,h1,h2,.inl ⟨by omega,h3.2⟩⟩
  ·simp at h3
structure WL (succ:ae->List ae) (filt:ae->Bool) (Rch:ae->Prop) (pre:List ae) (seen:List (ae×Bool)) (M:List ae) (i g:Nat):Prop where
 nd:M.Nodup
 see:∀ x,(cF aK x seen).getD false=decide (x∈M)
 rch:∀ x∈M,Rch x
 con:∀ x r,GW succ filt (pre++M) i g x r->r∈M
variable {Rch:ae->Prop} {pre:List ae} {seen:List (ae×Bool)} {M:List ae} {i g:Nat} {c e:ae}
theorem WL.skip (h:WL succ filt Rch pre seen M i g) (hc:(pre++M)[i]? = some c) (he:(succ c)[g]? = some e) (hf:filt e=false):WL succ filt Rch pre seen M i (g+1) :=
 ⟨h.nd,h.see,h.rch,fun x r hx=>by
  rcases (GW.step hc he).1 hx with h1 | ⟨_,_,h1⟩
  ·exact h.con x r h1
  ·rw [hf] at h1; cases h1⟩
theorem WL.old (h:WL succ filt Rch pre seen M i g) (hc:(pre++M)[i]? = some c) (he:(succ c)[g]? = some e) (hm:e∈M):WL succ filt Rch pre seen M i (g+1) :=
 ⟨h.nd,h.see,h.rch,fun x r hx=>by
  rcases (GW.step hc he).1 hx with h1 | ⟨_,rfl,_⟩
  ·exact h.con x r h1
  ·exact hm⟩
theorem WL.new (h:WL succ filt Rch pre seen M i g) (hc:(pre++M)[i]? = some c) (he:(succ c)[g]? = some e) (hm:e ∉ M) (hr:Rch e):WL succ filt Rch pre (dS aK e true seen) (M++[e]) i (g+1) :=
 ⟨List.nodup_append.2 ⟨h.nd,by simp,fun a ha b hb e2=>by rw [bK] at hb; subst hb e2; exact hm ha⟩,K6 h.see e,fun x hx=>by
  rcases cD.1 hx with hx | hx
  ·exact h.rch x hx
  ·rw [bK] at hx; subst hx; exact hr,fun x r hx=>by
  have hi:i<(pre++M).length:=(bS.1 hc).1;rw [<- CC,GW.grow hi] at hx;rcases (GW.step hc he).1 hx with h1 | ⟨_,rfl,_⟩
  ·exact iB _ (h.con x r h1)
  ·simp⟩
theorem WL.next (h:WL succ filt Rch pre seen M i g) (hc:(pre++M)[i]? = some c) (hg:g=(succ c).length):WL succ filt Rch pre seen M (i+1) 0 :=
 ⟨h.nd,h.see,h.rch,fun x r hx=>h.con x r (by subst hg; exact (GW.next hc).2 hx)⟩
theorem WL.fin (h:WL succ filt Rch pre seen M i g) (hi:(pre++M).length<=i) (hx:x∈pre++M) (hr:r∈succ x) (hf:filt r=true):r∈M:=by
 obtain⟨j,hj⟩:=iD.1 hx;exact h.con x r ⟨j,hj,hf,.inl ⟨by have:=(bS.1 hj).1; omega,hr⟩⟩
end
section
variable {rd:ae->List ae} {op:ae->Bool} {k:ae}
def Eg (rd:ae->List ae) (op:ae->Bool) (x y:ae):Prop:=op x=true/\y∈rd x/\op y=true
theorem MS (O:op k=true) (h:gI (Eg rd op) k x):op x=true:=by
 cases h with
 | refl=>exact O
 | snoc _ e=>exact e.2.2
end
def ji (k:ae):Bool:=decide (k.v=32)||(decide (k.v=7)||decide (k.v=14)||decide (k.v=17)||decide (k.v=18))
theorem iN (k:ae):cO k=some (ji k):=by
 unfold cO rS ji fV fU;have hb:∀ n:Int,((k.v:Int)==n)=decide (k.v=n):=fun n=>by rw [Bool.eq_iff_iff]; simp
 rw [hb,hb,hb,hb,hb];by_cases h32:k.v=32
 ·simp [h32]
 ·by_cases h7:k.v=7
  ·simp [h7]
  ·by_cases h14:k.v=14
   ·simp [h14]
   ·by_cases h17:k.v=17
    ·simp [h17]
    ·by_cases h18:k.v=18
     ·simp [h18]
     ·simp only [h32,h7,h14,h17,h18,decide_false,Bool.or_false,cond_false];cases decide ((1:Int)<=k.v) <;> cases decide ((k.v:Int)<=22) <;> rfl
def F8 (r:au) (rev:Int):Bool:=ji r.d&&decide (r.t<rev) && !r.w
theorem F9 (r:au) (rev:Int):F8 r rev=(ji r.d&&decide (r.t<rev) && !r.w):=rfl
noncomputable def sX (l:List au) (rev:Int) (k:ae):Bool:=(bc l k).2&&F8 (bc l k).1 rev
def zE (l:List au) (k:ae):List ae:=(bc l k).1.k
theorem bW {l:List au} {k:ae} (h:(bc l k).2=true):(bc l k).1∈l/\(bc l k).1.d=k:=by
 unfold bc at *;cases hf:l.find? (fun r=>dt r.d k) with
 | none=>rw [hf] at h; cases h
 | some r =>
  have h2:=List.find?_some hf;exact⟨IM hf,dM.1 h2⟩
theorem rQ {l:List au} {k:ae} (h:(bc l k).2=false):bc l k=(RY,false)/\∀ r∈l,r.d≠k:=by
 unfold bc at *;cases hf:l.find? (fun r=>dt r.d k) with
 | none =>
  refine⟨rfl,fun r hr e=>?_⟩;have:=CD.1 hf r hr;exact this (dM.2 e)
 | some r=>rw [hf] at h; cases h
theorem EL {l:List au} {rev:Int} {k:ae} (h:sX l rev k=true):k∈l.map au.d:=by
 unfold sX at h;simp only [kg] at h;obtain⟨h1,h2⟩:=bW h.1;exact fG.2 ⟨_,h1,h2⟩
theorem xZ {l:List au} (hl:L7 l) (rev:Int) (k:ae):qj l rev k=some (sX l rev k):=by
 unfold qj jo;rw [vy hl,ax];cases hf:(bc l k).2 with
 | false=>simp [sX,hf]
 | true =>
  have O:=(bW hf).2;unfold sX;rw [hf,F9,O,cond_true,iN,ax];cases ji k <;> cases decide (((bc l k).1.t:Int)<rev) <;> rfl
structure IR (l:List au):Prop where
 asc:Ec l
 len:l.length<=1000
 rds:∀ r∈l,r.k.length<=1000
theorem IR.rm {l:List au} (h:IR l):L7 l:=⟨by have:=h.len; unfold Rm; omega,fun r hr=>by have:=h.rds r hr; unfold Rm; omega⟩
theorem IR.rd {l:List au} (h:IR l) (k:ae):(zE l k).length<=1000:=by
 unfold zE;cases hf:(bc l k).2 with
 | true=>exact h.rds _ (bW hf).1
 | false=>rw [(rQ hf).1]; exact bT _
noncomputable abbrev Ek (l:List au) (rev:Int):=Eg (zE l) (sX l rev)
def Ru (l:List au) (rev:Int) (k:ae) (m:List ae):Prop:=Ee m/\∀ x,x∈m↔gI (Ek l rev) k x/\gI (Ek l rev) x k
section
variable {l:List au} (hl:IR l) {rev:Int} {k:ae} (O:sX l rev k=true)
theorem mq (O:sX l rev k=true) (h:gI (Ek l rev) k x):sX l rev x=true:=MS O h
abbrev B1 (l:List au) (rev:Int) (k:ae) (seen:List (ae×Bool)) (M:List ae) (i g:Nat):Prop:=WL (zE l) (sX l rev) (GY (Ek l rev) k) [k] seen M i g
theorem B1.len {seen:List (ae×Bool)} {M:List ae} {i g:Nat} (h:B1 l rev k seen M i g):M.length<=l.length:=by
 have:=oE (m:=l.map au.d) h.nd fun x hx=>by
  obtain⟨y,_,e⟩:=h.rch x hx;exact EL e.2.2
 rwa [m5] at this
include hl O in
theorem KM {seen:List (ae×Bool)} {M:List ae} {i:Nat} {c:ae} (hc:([k]++M)[i]? = some c) (h:B1 l rev k seen M i 0) :
  Ok (loop (fun s:(List (ae×Bool))×(List ae)×Int=>fF l rev (bc l c) s.1 s.2.1 s.2.2) (seen,[k]++M,0)) fun r=>∃ M',r.2=[k]++M'/\B1 l rev k r.1 M' (i+1) 0/\i<([k]++M').length:=by
 have hcs:gI (Ek l rev) k c:=by
  cases i with
  | zero=>simp at hc; subst hc; exact .refl
  | succ i =>
   rw [pQ (by simp)] at hc;exact (h.rch c (aO hc)).star
 have hcop:=mq O hcs;have hrl:=hl.rd c;have hll:=hl.len;refine sa (B:=fun s:(List (ae×Bool))×(List ae)×Int=>fF l rev (bc l c) s.1 s.2.1 s.2.2)
  (fun g s=>s.2.2=(g:Int)/\∃ M',s.2.1=[k]++M'/\B1 l rev k s.1 M' i g/\([k]++M')[i]? = some c) _ (zE l c).length ?_ ?_ ⟨rfl,M,rfl,h,hc⟩
 ·rintro g ⟨sn,L,gi⟩ hg ⟨rfl,M',rfl,U,hLc⟩;dsimp only at U hLc ⊢;have hge:(zE l c)[g]? = some (zE l c)[g]:=bA hg;have hlen:=B1.len U;have hLi:i<([k]++M').length:=(bS.1 hLc).1;refine .inl ?_;have hgu:(bc l c).1.k=zE l c:=rfl;unfold fF;rw [hgu,dlt hg,cond_true,bx,hge,ax];generalize (zE l c)[g]=e at hge;rw [xZ hl.rm,ax];unfold ma l9;rw [cH (by omega)];cases hf:sX l rev e with
  | false=>exact⟨_,rfl,rfl,M',rfl,U.skip hLc hge hf,hLc⟩
  | true =>
   have hEg:Ek l rev c e:=⟨hcop,aO hge,hf⟩;rw [cond_true,U.see e,ax];by_cases hm:e∈M'
   ·rw [decide_eq_true hm];exact⟨_,rfl,rfl,M',rfl,U.old hLc hge hm,hLc⟩
   ·rw [decide_eq_false hm];simp only [nO,cond_true];rw [gd,du (by simp only [CG,cS]; omega),cond_true];refine⟨_,rfl,rfl,M'++[e],by simp,U.new hLc hge hm ⟨c,hcs,hEg⟩,?_⟩;rw [<- CC,m4 hLi]; exact hLc
 ·rintro⟨sn,L,gi⟩ ⟨rfl,M',rfl,U,hLc⟩;dsimp only at U hLc ⊢;have hend:fF l rev (bc l c) sn ([k]++M') ((zE l c).length:Int)=some (.out (sn,[k]++M')):=by
   unfold fF;rw [show (bc l c).1.k=zE l c from rfl,bZ]; rfl
  exact⟨_,hend,M',rfl,U.next hLc rfl,(bS.1 hLc).1⟩
include hl O in
theorem FW:Ok (oO l rev k) fun m=>∀ x,(cF aK x m).getD false=true↔GY (Ek l rev) k x:=by
 have hll:=hl.len;have h0:B1 l rev k [] [] 0 0:=⟨List.nodup_nil,fun x=>by simp [cF],fun x hx=>by simp at hx,fun x r h=>by
  obtain⟨j,h1,h2,h3 | ⟨_,h3⟩⟩:=h
  ·omega
  ·simp at h3⟩
 have fin:∀ {sn M i},B1 l rev k sn M i 0->([k]++M).length<=i->∀ x,(cF aK x sn).getD false=true↔GY (Ek l rev) k x:=by
  intro sn M i U hL x;rw [U.see,decide_eq_true_iff];refine⟨U.rch x,?_⟩;rintro⟨y,hy,e⟩;have hall:∀ z,gI (Ek l rev) k z->z∈[k]++M:=fun z hz=>by
   induction hz with
   | refl=>simp
   | snoc _ e ih=>exact pR _ (U.fin hL ih e.2.1 e.2.2)
  exact U.fin hL (hall y hy) e.2.1 e.2.2
 unfold oO pv;refine aD (Q:=fun m=>∀ x,(cF aK x m).getD false=true↔GY (Ek l rev) k x) ?_ fun m hm=>ai hm;refine sa (B:=fun s:(List (ae×Bool))×(List ae)×Int=>ig l rev s.1 s.2.1 s.2.2)
  (fun i s=>s.2.2=(i:Int)/\∃ M,s.2.1=[k]++M/\B1 l rev k s.1 M i 0/\i<=([k]++M).length) _ (l.length+1) ?_ ?_ ⟨rfl,[],rfl,h0,bT _⟩
 ·rintro i ⟨sn,L,ii⟩ hi ⟨rfl,M,rfl,U,hiL⟩;dsimp only at U hiL ⊢;by_cases hlt:i<([k]++M).length
  ·refine .inl ?_;have hc:([k]++M)[i]? = some ([k]++M)[i]:=bA hlt;obtain⟨⟨s2,L2⟩,e2,M',rfl,h2,h3⟩:=KM hl O hc U;refine⟨(s2,[k]++M',((i+1:Nat):Int)),?_,rfl,M',rfl,h2,h3⟩;unfold ig l8;rw [dlt hlt,cond_true,bx,hc,ax,vy hl.rm,ax,e2,ax,cH (by omega)]
  ·refine .inr ⟨sn,?_,fin U (by omega)⟩;unfold ig;rw [Hm hlt]; rfl
 ·rintro⟨sn,L,ii⟩ ⟨rfl,M,rfl,U,hiL⟩;dsimp only at U hiL ⊢;have hlen:=B1.len U;have hlen2:([k]++M).length<=l.length+1:=by rw [cS,CG]; omega
  refine⟨sn,?_,fin U hlen2⟩;unfold ig;rw [Hm (by omega)]; rfl
include hl O in
theorem Lb:Ok (nG l rev k) (Ru l rev k):=by
 have hll:=hl.len;unfold nG;rw [xZ hl.rm,ax,O];simp only [dC,cond_false];refine aD (FW hl O) fun tm htm=>?_;unfold tB;refine aD (Q:=fun out=>out.length<=1001/\∀ x,x∈out↔gI (Ek l rev) k x/\gI (Ek l rev) x k) ?_ fun out ⟨h1,h2⟩=>?_
 ·refine sa (B:=fun s:(List ae)×Int=>oN l rev k tm s.1 s.2)
   (fun i s=>s.2=(i:Int)/\s.1.length<=i+1/\∀ x,x∈s.1↔x=k∨(∃ r∈l.take i,r.d=x)/\gI (Ek l rev) k x/\gI (Ek l rev) x k) _ l.length ?_ ?_ ⟨rfl,by simp,fun x=>by simp⟩
  ·rintro i ⟨out,ii⟩ hi ⟨rfl,hlen,hm⟩;dsimp only at hlen hm ⊢;refine .inl ?_;have hr:l[i]? = some l[i]:=bA hi;generalize l[i]=r at hr;have hkeep:¬ (r.d≠k/\gI (Ek l rev) k r.d/\gI (Ek l rev) r.d k)->∀ x,x∈out↔x=k∨(∃ r∈l.take (i+1),r.d=x)/\gI (Ek l rev) k x/\gI (Ek l rev) x k:=fun hn x=>by
    rw [hm,bV hr];constructor
    ·rintro (h | ⟨⟨r',h1,h2⟩,h3⟩)
     ·exact .inl h
     ·exact .inr ⟨⟨r',iB _ h1,h2⟩,h3⟩
    ·rintro (h | ⟨⟨r',h1,h2⟩,h3⟩)
     ·exact .inl h
     ·rcases cD.1 h1 with h1 | h1
      ·exact .inr ⟨⟨r',h1,h2⟩,h3⟩
      ·rw [bK] at h1;subst h1 h2;by_cases hx:r'.d=k
       ·exact .inl hx
       ·exact absurd ⟨hx,h3⟩ hn
   have hadd:gI (Ek l rev) k r.d->gI (Ek l rev) r.d k->∀ x,x∈out++[r.d]↔x=k∨(∃ r∈l.take (i+1),r.d=x)/\gI (Ek l rev) k x/\gI (Ek l rev) x k:=fun ha hb x=>by
    rw [cD,hm,bV hr,bK];constructor
    ·rintro ((h | ⟨⟨r',h1,h2⟩,h3⟩) | rfl)
     ·exact .inl h
     ·exact .inr ⟨⟨r',iB _ h1,h2⟩,h3⟩
     ·exact .inr ⟨⟨r,by simp,rfl⟩,ha,hb⟩
    ·rintro (h | ⟨⟨r',h1,h2⟩,h3⟩)
     ·exact .inl (.inl h)
     ·rcases cD.1 h1 with h1 | h1
      ·exact .inl (.inr ⟨⟨r',h1,h2⟩,h3⟩)
      ·rw [bK] at h1;subst h1 h2; exact .inr rfl
   unfold oN oM rf;rw [dlt hi,cond_true,bx,hr,ax,cH (by omega)];show ∃ s',cond (!(dt r.d k)) _ _=_/\_;by_cases hx:r.d=k
   ·rw [dM.2 hx];exact⟨_,rfl,rfl,by dsimp only; omega,hkeep fun h=>h.1 hx⟩
   ·rw [wS.2 hx];simp only [nO,cond_true,ax];cases ht:(cF aK r.d tm).getD false with
    | false =>
     refine⟨_,rfl,rfl,by dsimp only; omega,hkeep fun h=>?_⟩;have:=(htm r.d).2 (h.2.1.plus (fun e=>hx e.symm));rw [ht] at this; cases this
    | true =>
     have hp:=(htm r.d).1 ht;obtain⟨m2,e2,h2⟩:=FW hl (mq O hp.star);rw [cond_true,e2,ax];cases ht2:(cF aK k m2).getD false with
     | false =>
      refine⟨_,rfl,rfl,by dsimp only; omega,hkeep fun h=>?_⟩;have:=(h2 k).2 (h.2.2.plus hx);rw [ht2] at this; cases this
     | true =>
      have hp2:=(h2 k).1 ht2;rw [cond_true,gd,du (by simp only [CG]; omega),cond_true];exact⟨_,rfl,rfl,by simp only [cS,CG]; omega,hadd hp.star hp2.star⟩
  ·rintro⟨out,ii⟩ ⟨rfl,hlen,hm⟩;dsimp only at hlen hm ⊢;refine⟨out,by unfold oN; rw [bZ]; rfl,by omega,fun x=>(hm x).trans ?_⟩;rw [gz];constructor
   ·rintro (rfl | ⟨_,h⟩)
    ·exact⟨.refl,.refl⟩
    ·exact h
   ·intro h;by_cases hx:x=k
    ·exact .inl hx
    ·obtain⟨r,hr,e⟩:=fG.1 (EL (mq O h.1));exact .inr ⟨⟨r,hr,e⟩,h⟩
 ·obtain⟨m,e,hm⟩:=xA (l:=out) (by unfold Rm; omega);rw [e];exact ai ⟨hm.asc,fun x=>(hm.mem x).trans (h2 x)⟩
end
theorem Ru.len {l:List au} (hl:IR l) {rev:Int} {k:ae} (O:sX l rev k=true) {m:List ae} (h:Ru l rev k m):m.length<=1000:=by
 have hn:m.Nodup:=List.Pairwise.imp (fun {a b} h=>tv h) h.1;have:=oE (m:=l.map au.d) hn fun x hx=>EL (mq O ((h.2 x).1 hx).1);rw [m5] at this;exact cC this hl.len
def G9 (l:List au) (g:List ae) (m:ae):List de:=((zE l m).filter fun x=>!(g.any fun y=>dt x y)).map fun x=>⟨m,x⟩
def cU (l:List au) (g h:List ae):List de:=h.flatMap (G9 l g)
theorem JZ {l:List au} (hl:IR l) (g:List ae) (m:ae):(G9 l g m).length<=1000:=by
 unfold G9;rw [m5];exact cC (Ea _ _) (hl.rd m)
theorem tq {l:List au} (hl:IR l) (g:List ae):∀ h:List ae,(cU l g h).length<=h.length*1000
 | []=>bT _
 | m::h=>by
  have:=tq hl g h;have:=JZ hl g m;unfold cU at *;rw [AT,cS,eS]; omega
theorem Do {l:List au} (hl:IR l) {g:List ae} (hg:g.length<=2000):i7 l g=some (cU l g g):=by
 unfold i7 n5;refine iq (em (xs:=g) (fun k=>(cU l g (g.take k),(k:Int))) rfl (r:=cU l g g) (fun k m hm=>?_) ?_) rfl
 ·have O:=aY hm;have hc:=tq hl g (g.take k);have hct:(g.take k).length<=2000:=by rw [je]; omega
  unfold kW n7;dsimp only;rw [m9 hm,cond_true,bx,hm,ax,vy hl.rm,ax,cH (by omega)];have hin:loop (fun s:List de×Int=>iI g m (bc l m) s.1 s.2) (cU l g (g.take k),0)=some (cU l g (g.take k)++G9 l g m):=by
   have hrl:=hl.rd m;refine em (xs:=zE l m) (fun i=>(cU l g (g.take k)++(((zE l m).take i).filter fun x=>!(g.any fun y=>dt x y)).map (fun x=>(⟨m,x⟩:de)),(i:Int))) (by simp) (fun i x hx=>?_) ?_
   ·have hi:=aY hx;unfold iI kV;dsimp only;rw [show (bc l m).1.k=zE l m from rfl,m9 hx,cond_true,bx,hx,ax,uB (by unfold Rm; omega),ax,cH (by omega),bV hx,pZ,vT];have hpl:((((zE l m).take i).filter fun x=>!(g.any fun y=>dt x y)).map (fun x=>(⟨m,x⟩:de))).length<=1000:=by
     rw [m5];exact cC (vN _ _ _) hrl
    cases hh:g.any fun y=>dt x y with
    | true=>simp [hh]
    | false =>
     simp only [nO,cond_true];rw [gd,du (by simp only [cS,CG]; omega),cond_true];simp [hh]
   ·unfold iI;dsimp only;rw [show (bc l m).1.k=zE l m from rfl,bZ,gz]; rfl
  rw [hin,ax,bV hm];unfold cU;rw [List.flatMap_append,List.flatMap_singleton]
 ·unfold kW;dsimp only;rw [bZ,gz]; rfl
end
section
open Go.Lib hiding intOf
variable {ls:List ByteArray} {r:aN} {x:dd}
noncomputable def rk (l:List aN) (n:Nat):ae:=⟨if (aZ l)[n]? = some true then 32 else 31,cL n⟩
section
variable {l:List aN} {n a b:Nat}
theorem zN (ha:a<65536) (hb:b<65536) (h:cL (a:Int)=cL b):a=b:=by
 have h1:=tc ha;rw [h,tc hb] at h1;omega
theorem rG (ha:a<100) (hb:b<100) (h:rk l a=rk l b):a=b:=zN (by omega) (by omega) (congrArg ae.x h)
theorem Gg (h:n<l.length):rk l n=Gi l[n] n:=by
 unfold rk Gi;rw [kZ h];cases l[n].f <;> simp
theorem AK (h:n<l.length) (hl:l.length<=100):jQ l n=some (rk l n):=by rw [Gg h]; exact Jr h (by omega)
theorem qM:(rk l n).v=31/\(aZ l)[n]? ≠ some true∨(rk l n).v=32/\(aZ l)[n]? = some true:=by
 unfold rk;by_cases h:(aZ l)[n]? = some true
 ·exact .inr ⟨by simp [h],h⟩
 ·exact .inl ⟨by simp [h],h⟩
theorem F6 (h:n<100):MH 99 (cL (n:Int)).toList=n:=by
 unfold MH;rw [vc,nx,Fy (by omega),if_pos (by omega)]
theorem Af (h:n<100):F7 (rk l n)=n:=by
 unfold F7;rw [if_pos (by rcases qM (l:=l) (n:=n) with⟨h,_⟩|⟨h,_⟩ <;> rw [h] <;> decide)];exact F6 h
theorem JY (h:n<100):F7 (bJ n)=n:=by
 unfold F7;rw [if_pos ⟨by show (30:Int)<=30; omega,by show (30:Int)<=32; omega⟩];exact F6 h
theorem kP (k:ae):cu k=some (decide (k.v=1)||(decide (k.v=2)||decide (k.v=30))):=by
 unfold cu jP;by_cases h1:k.v=1
 ·simp [h1]
 ·by_cases h2:k.v=2
  ·simp [h2]
  ·by_cases h3:k.v=30
   ·simp [h3]
   ·have hb:∀ n:Int,k.v≠n->(k.v==n)=false:=fun n h=>by simpa using h
    rw [hb 1 h1,hb 2 h2,hb 30 h3];simp [h1,h2,h3]
theorem k5:cu (rk l n)=some false:=by
 rw [kP];rcases qM (l:=l) (n:=n) with⟨h,_⟩|⟨h,_⟩ <;> rw [h] <;> rfl
theorem ki:cu (bJ n)=some true:=by rw [kP]; rfl
theorem Ir:ji (rk l n)=decide ((aZ l)[n]? = some true):=by
 unfold ji;rcases qM (l:=l) (n:=n) with⟨h,k⟩|⟨h,k⟩
 ·rw [h,decide_eq_false k]; rfl
 ·rw [h,decide_eq_true k]; rfl
theorem IY:ji (bJ n)=false:=rfl
theorem oX:bJ a≠rk l b:=fun h=>by
 have h30:(30:Int)=(rk l b).v:=congrArg ae.v h;rcases qM (l:=l) (n:=b) with⟨h,_⟩|⟨h,_⟩ <;> rw [h] at h30 <;> omega
theorem DY {k:ae} (h:30<=k.v/\k.v<=32):dz k=some (decide (0<=F7 k)):=by
 unfold dz lR;rw [decide_eq_true h.1,decide_eq_true h.2,cond_true,cond_true,ta];rfl
theorem B9 (h:n<100):dz (rk l n)=some true:=by
 rw [DY (by rcases qM (l:=l) (n:=n) with⟨h,_⟩|⟨h,_⟩ <;> rw [h] <;> decide),Af h,decide_eq_true (by omega)]
theorem uW (h:n<100):dz (bJ n)=some true:=by
 rw [DY (k:=bJ n) ⟨by show (30:Int)<=30; omega,by show (30:Int)<=32; omega⟩,JY h,decide_eq_true (by omega)]
def fP (l:List aN) (k:ae):Prop:=(∃ c,c<10/\k=bJ c)∨∃ n,n<l.length/\k=rk l n
theorem fP.valid (hl:l.length<=8) {k:ae} (h:fP l k):dz k=some true:=by
 rcases h with⟨c,hc,rfl⟩|⟨n,hn,rfl⟩
 ·exact uW (by omega)
 ·exact B9 (by omega)
theorem vh (h:n<l.length):CJ (aZ l) n<=l.length:=by
 unfold CJ;split
 ·have:=(G6 (rs:=aZ l) (n:=n) (by unfold aZ; rwa [m5])).2.2;unfold aZ at this ⊢;rwa [m5] at this
 ·omega
noncomputable def tJ (x:dd) (ls:List ByteArray):Int:=if x.u1=true/\(ls.length=0∨gT (ls.getD (ls.length-1) ⟨#[]⟩) % 2=0) then x.t1 else x.N
noncomputable def iO (l:List aN) (x:dd) (ls:List ByteArray):ae:=if x.b1=true then bJ (tJ x ls).toNat else rk l (tJ x ls).toNat
theorem lC (C:aV l) (h:l[n]? = some r) {k:Nat} (hx:r.c[k]? = some x) (ls:List ByteArray) :
  0<=tJ x ls/\((x.b1=true/\∃ c,c<10/\(tJ x ls)=(c:Nat)/\iO l x ls=bJ c)∨(x.b1=false/\∃ j,j<CJ (aZ l) n/\(tJ x ls)=(j:Nat)/\iO l x ls=rk l j)):=by
 have U:=(C.each n r h).each k x hx;have h0:0<=tJ x ls:=by unfold tJ; split; exact U.low2; exact U.low
 refine⟨h0,?_⟩;cases hc:x.b1 with
 | true =>
  have:tJ x ls<4:=by unfold tJ; split; exact U.cell2 hc; exact U.cell hc
  exact .inl ⟨rfl,(tJ x ls).toNat,by omega,by omega,by unfold iO; rw [if_pos hc]⟩
 | false =>
  have:tJ x ls<CJ (aZ l) n:=by unfold tJ; split; exact U.rule2 hc; exact U.rule hc
  exact .inr ⟨rfl,(tJ x ls).toNat,by omega,by omega,by unfold iO; rw [if_neg (by rw [hc]; simp)]⟩
theorem Gq (C:aV l) (h:l[n]? = some r) (hn:r.c.length<=ls.length) :
  hR l (rk l n) ls=some ⟨true,cL (u6 r (ls.take r.c.length)),⟨0,⟨#[]⟩⟩⟩:=by
 have hlt:=aY h;have h8:=C.high;have h3:=(C.each n r h).asks;have hC:0<=r.C/\r.C<=65535:=by
  have hr:=C.each n r h;cases hg:r.f with
  | true=>have:=hr.ring hg; omega
  | false=>have:=hr.plain hg; omega
 obtain⟨m,hm,hm2⟩:=u7 C h (ls:=ls.take r.c.length) (by rw [je]; omega);unfold hR;rw [ta,ax,Af (by omega),decide_eq_false (by omega),cond_false,decide_eq_false (by omega),cond_false,AK hlt (by omega),ax];rw [show (!((rk l n).v==(rk l n).v&&(rk l n).x.toList==(rk l n).x.toList))=false by simp,cond_false,bx,h,ax,decide_eq_true (by omega),cond_true];rw [qo (by omega),ax,Ku hC (by rw [je]; omega),ax,hm,r9 (by omega),ax]
theorem HL (C:aV l) (h:l[n]? = some r) (hx:r.c[ls.length]? = some x) :
  hR l (rk l n) ls=some ⟨false,⟨#[]⟩,iO l x ls⟩:=by
 have hlt:=aY h;have hla:=aY hx;have h8:=C.high;have h3:=(C.each n r h).asks;have U:=(C.each n r h).each _ x hx;obtain⟨g0,hg⟩:=lC C h hx ls;have hll:=vh hlt;have j1:∀ z:Int,z=tJ x ls->lg l x z=some ⟨false,⟨#[]⟩,iO l x ls⟩:=by
  rintro _ rfl;unfold lg;rcases hg with⟨hc,c,h4,e1,e2⟩|⟨hc,j,h4,e1,e2⟩
  ·rw [hc,cond_true,e1,vp (by omega),ax,e2]
  ·rw [hc,cond_false,e1,AK (by omega) (by omega),ax,e2]
 unfold hR;rw [ta,ax,Af (by omega),decide_eq_false (by omega),cond_false,decide_eq_false (by omega),cond_false,AK hlt (by omega),ax];rw [show (!((rk l n).v==(rk l n).v&&(rk l n).x.toList==(rk l n).x.toList))=false by simp,cond_false,bx,h,ax,decide_eq_false (by omega),cond_false,bx,hx,ax];unfold lh;cases hp:x.u1 with
 | false=>exact j1 _ (by unfold tJ; rw [if_neg (by rw [hp]; simp)])
 | true =>
  obtain⟨_,O⟩:=U.pick hp;rw [cond_true,show (((ls.length:Nat):Int)==0)=false from beq_eq_false_iff_ne.2 (by omega),cond_false];have hw:IntKind.i64.wrap ((ls.length:Int)-1)=((ls.length-1:Nat):Int):=by rw [qq (by omega) (by omega)]; omega
  have hg2:=bA (l:=ls) (i:=ls.length-1) (by omega);rw [hw,bx,hg2,ax,Gu,ax];have hv:=jq ls[ls.length-1];have hd:ls.getD (ls.length-1) ⟨#[]⟩=ls[ls.length-1]:=by rw [LX,hg2]; rfl
  have ht:Int.tmod (gT ls[ls.length-1]) 2=gT ls[ls.length-1] % 2:=Int.tmod_eq_emod_of_nonneg (by omega);by_cases hz:gT ls[ls.length-1] % 2=0
  ·rw [ht,hz];exact j1 _ (by unfold tJ; rw [if_pos ⟨hp,.inr (by rw [hd]; exact hz)⟩])
  ·rw [ht,show (gT ls[ls.length-1] % 2==0)=false by simpa using hz];exact j1 _ (by unfold tJ; rw [if_neg (by rw [hd]; rintro⟨_,h | h⟩; exact absurd h (by omega); exact hz h)])
theorem Lz (k:ae) (O:k.v=31∨k.v=32) (ls:List ByteArray):ej l k ls=hR l k ls:=by
 unfold ej;rcases O with h | h
 ·rw [h]; cases hR l k ls <;> rfl
 ·rw [h]; cases hR l k ls <;> rfl
theorem wC:(rk l n).v=31∨(rk l n).v=32:=by rcases qM (l:=l) (n:=n) with⟨h,_⟩|⟨h,_⟩; exact .inl h; exact .inr h
theorem Aj (C:aV l) (h:l[n]? = some r) (hn:r.c.length<=ls.length) :
  ej l (rk l n) ls=some ⟨true,cL (u6 r (ls.take r.c.length)),⟨0,⟨#[]⟩⟩⟩:=(Lz _ wC _).trans (Gq C h hn)
theorem Cj (C:aV l) (h:l[n]? = some r) (hx:r.c[ls.length]? = some x) :
  ej l (rk l n) ls=some ⟨false,⟨#[]⟩,iO l x ls⟩:=(Lz _ wC _).trans (HL C h hx)
end
end
section
open Go.Lib hiding intOf
variable {b j n:Nat}
section
variable {rs:List Bool}
theorem Im:∀ {a j:Nat},ZZ rs a<=j->j<a->rs[j]? = some true
 | 0,_,_,h=>absurd h (by omega)
 | a+1,j,h1,h2=>by
  rw [Be] at h1;split at h1
  ·rename_i h;rcases dZ j a with h3 | h3
   ·exact Im h1 h3
   ·have:j=a:=by omega
    rw [this]; exact h
  ·omega
theorem KN {a:Nat}:∀ {j:Nat},a<=j->(∀ i,a<=i->i<j->rs[i]? = some true)->ZZ rs j<=a
 | 0,h,_=>by have:=DE rs 0; omega
 | j+1,h,hr=>by
  rcases dZ j a with h3 | h3
  ·have:=DE rs (j+1); omega
  ·rw [Be,if_pos (hr j h3 (by omega))];exact KN h3 fun i h1 h2=>hr i h1 (by omega)
theorem FI:∀ {f b j:Nat},b<=j->j<FH rs f b->rs[j]? = some true
 | 0,b,j,h1,h2=>by have:FH rs 0 b=b:=rfl; omega
 | f+1,b,j,h1,h2=>by
  rw [BH] at h2;split at h2
  ·rename_i h;rcases Nat.eq_or_lt_of_le h1 with h3 | h3
   ·rw [<- h3]; exact h
   ·exact FI h3 h2
  ·omega
def pN (rs:List Bool) (n:Nat):Nat:=(blk rs n).1
theorem uE (h:rs[n]? ≠ some true):pN rs n=n:=by unfold pN blk; rw [if_neg h]
theorem zr (h:rs[n]? = some true):pN rs n=ZZ rs n:=by unfold pN blk; rw [if_pos h]
theorem Lf (n:Nat):pN rs n<=n:=by
 by_cases h:rs[n]? = some true
 ·rw [zr h]; exact DE rs n
 ·rw [uE h]; omega
theorem Fj (h:rs[n]? = some true) (h1:ZZ rs n<=j) (h2:j<CJ rs n):rs[j]? = some true:=by
 unfold CJ at h2;rw [if_pos h] at h2;unfold blk at h2;rw [if_pos h] at h2;rcases Nat.lt_trichotomy j n with h3 | h3 | h3
 ·exact Im h1 h3
 ·rw [h3]; exact h
 ·exact FI h3 h2
theorem x6 (h:rs[n]? = some true) (hj:j<CJ rs n) (hp:rs[j]? ≠ some true):j<pN rs n:=by
 rw [zr h];rcases dZ j (ZZ rs n) with h3 | h3
 ·exact h3
 ·exact absurd (Fj h h3 hj) hp
theorem Ae (h:rs[n]? = some true) (hj:j<CJ rs n) (hp:rs[j]? = some true):pN rs j<=pN rs n:=by
 rw [zr h,zr hp];rcases dZ j (ZZ rs n) with h3 | h3
 ·have:=DE rs j; omega
 ·exact KN h3 fun i h1 h2=>Fj h h1 (by omega)
theorem zV (h:rs[n]? ≠ some true) (hj:j<CJ rs n):pN rs j<pN rs n:=by
 unfold CJ at hj;rw [if_neg h] at hj;rw [uE h];have:=Lf (rs:=rs) j;omega
end
def yt (p:Nat->Bool):Nat->Nat
 | 0=>0
 | k+1=>if p k then 2 ^ k+yt p k else yt p k
theorem Bn (p:Nat->Bool):∀ k,yt p k<2 ^ k
 | 0=>by simp [yt]
 | k+1=>by
  have:=Bn p k;have h2:2 ^ (k+1)=2 ^ k+2 ^ k:=by rw [Nat.pow_succ]; omega
  unfold yt;split <;> omega
theorem Bo (p:Nat->Bool):∀ k b,(yt p k).testBit b=(decide (b<k)&&p b)
 | 0,b=>by simp [yt]
 | k+1,b=>by
  have ih:=Bo p k b;have hlt:=Bn p k;unfold yt;rcases Nat.lt_trichotomy b k with h | h | h
  ·rw [decide_eq_true (by omega),tF];rw [decide_eq_true h,tF] at ih;split
   ·rw [Nat.testBit_two_pow_add_gt h]; exact ih
   ·exact ih
  ·subst h;rw [decide_eq_true (by omega),tF];split
   ·rename_i hp;rw [Nat.testBit_two_pow_add_eq,CA hlt,hp]; rfl
   ·rename_i hp;rw [CA hlt];simpa using hp
  ·rw [decide_eq_false (by omega),Bool.false_and];have h2:2 ^ (k+1)=2 ^ k+2 ^ k:=by rw [Nat.pow_succ]; omega
   have h3:2 ^ (k+1)<=2 ^ b:=Cz (by omega) (by omega);split <;> exact CA (by omega)
section
variable (l:List aN) (inp:ae->ByteArray)
noncomputable def mz (V:Nat->ByteArray) (x:dd) (ls:List ByteArray):ByteArray:=if x.b1=true then inp (iO l x ls) else V (tJ x ls).toNat
noncomputable def dH (V:Nat->ByteArray) (r:aN):Nat->List ByteArray
 | 0=>[]
 | k+1=>match r.c[k]? with
  | none=>dH V r k
  | some x=>dH V r k++[mz l inp V x (dH V r k)]
inductive RB (V:Nat->ByteArray):Nat->Nat->Prop
 | own {n b:Nat} {r:aN}:l[n]? = some r->r.C.toNat.testBit b=true->RB V n b
 | ask {n b:Nat} {r:aN} {x:dd}:l[n]? = some r->x∈r.c->(x.b1=true∨(aZ l)[x.N.toNat]? ≠ some true)->(gT (mz l inp V x [])).toNat.testBit b=true->RB V n b
 | ring {n b:Nat} {r:aN} {x:dd}:l[n]? = some r->x∈r.c->x.b1=false->(aZ l)[x.N.toNat]? = some true->RB V x.N.toNat b->RB V n b
open Classical in
noncomputable def JI (V:Nat->ByteArray) (n:Nat):ByteArray:=match l[n]? with
 | none=>⟨#[]⟩
 | some r=>if r.f=true then cL (yt (fun b=>decide (RB l inp V n b)) 16:Nat) else cL (u6 r (dH l inp V r r.c.length))
noncomputable def Wd:Nat->Nat->ByteArray
 | 0=>fun _=>⟨#[]⟩
 | k+1=>fun n=>if pN (aZ l) n<k then Wd k n else JI l inp (Wd k) n
noncomputable def Vd (n:Nat):ByteArray:=Wd l inp (pN (aZ l) n+1) n
theorem Nc:∀ {k n:Nat},pN (aZ l) n<k->Wd l inp k n=Vd l inp n
 | 0,n,h=>absurd h (by omega)
 | k+1,n,h=>by
  rcases dZ (pN (aZ l) n) k with h1 | h1
  ·show (if pN (aZ l) n<k then Wd l inp k n else _)=_;rw [if_pos h1];exact Nc h1
  ·obtain rfl:k=pN (aZ l) n:=by omega
   rfl
variable {l inp}
theorem uC (C:aV l) {r:aN} (h:l[n]? = some r) (hr:r.f=true) {k:Nat} {x:dd} (hx:r.c[k]? = some x) (ls:List ByteArray):tJ x ls=x.N:=by
 have:=(C.each n r h).each k x hx;unfold tJ;rw [if_neg];rintro⟨hp,_⟩;have:=(this.pick hp).1;rw [hr] at this; cases this
theorem im {r:aN} (h:l[n]? = some r):(aZ l)[n]? = some r.f:=by
 have:=aY h;rw [kZ this];rw [bA this] at h;rw [bM h]
theorem Bj {V V':Nat->ByteArray} (C:aV l) {n:Nat} {r:aN} (h:l[n]? = some r) (hr:r.f=false) (hV:∀ j,pN (aZ l) j<pN (aZ l) n->V j=V' j):∀ k,dH l inp V r k=dH l inp V' r k
 | 0=>rfl
 | k+1=>by
  have ih:=Bj C h hr hV k;unfold dH;cases hx:r.c[k]? with
  | none=>exact ih
  | some x =>
   dsimp only;rw [ih];congr 2;unfold mz;obtain⟨_,⟨hc,_⟩|⟨hc,j,hj,e1,_⟩⟩:=lC C h hx (dH l inp V' r k)
   ·rw [if_pos hc,if_pos hc]
   ·rw [if_neg (by rw [hc]; simp),if_neg (by rw [hc]; simp),e1];exact hV _ (zV (by rw [im h,hr]; simp) hj)
theorem Fc {V V':Nat->ByteArray} (C:aV l) {n0:Nat} (hV:∀ j,pN (aZ l) j<pN (aZ l) n0->V j=V' j) (h:RB l inp V n b):(aZ l)[n]? = some true->pN (aZ l) n<=pN (aZ l) n0->RB l inp V' n b:=by
 induction h with
 | own h1 h2=>exact fun _ _=>.own h1 h2
 | @ask n b r x h1 h2 h3 h4 =>
  intro hr hn;obtain⟨k,O⟩:=iD.1 h2;have hrr:r.f=true:=by rw [im h1] at hr; exact bM hr
  have e:=uC C h1 hrr O [];refine .ask h1 h2 h3 ?_;rw [<- h4];congr 3;unfold mz;obtain⟨_,⟨hc,_⟩|⟨hc,j,hj,e1,_⟩⟩:=lC C h1 O []
  ·rw [if_pos hc,if_pos hc]
  ·rw [if_neg (by rw [hc]; simp),if_neg (by rw [hc]; simp),e1];have e2:x.N.toNat=j:=by omega
   rw [hc,e2] at h3;have hp:(aZ l)[j]? ≠ some true:=by rcases h3 with h3 | h3; cases h3; exact h3
   have:=x6 hr hj hp;exact (hV _ (by rw [show ((j:Nat):Int).toNat=j by omega,uE hp]; omega)).symm
 | @ring n b r x h1 h2 h3 h4 h5 ih =>
  intro hr hn;obtain⟨k,O⟩:=iD.1 h2;have hrr:r.f=true:=by rw [im h1] at hr; exact bM hr
  have e:=uC C h1 hrr O [];refine .ring h1 h2 h3 h4 (ih h4 ?_);obtain⟨_,⟨hc,_⟩|⟨hc,j,hj,e1,_⟩⟩:=lC C h1 O []
  ·rw [h3] at hc; cases hc
  ·have e2:x.N.toNat=j:=by omega
   rw [e2] at h4 ⊢;have:=Ae hr hj h4;omega
theorem H0 (C:aV l) (hn:n<l.length):Vd l inp n=JI l inp (Vd l inp) n:=by
 have hg:=bA hn;have e:Vd l inp n=JI l inp (Wd l inp (pN (aZ l) n)) n:=by
  show (if pN (aZ l) n<pN (aZ l) n then _ else _)=_;rw [if_neg (by omega)]
 rw [e];have hV:∀ j,pN (aZ l) j<pN (aZ l) n->Wd l inp (pN (aZ l) n) j=Vd l inp j:=fun j hj=>Nc l inp hj;unfold JI;rw [hg];dsimp only;cases hr:l[n].f with
 | false=>rw [if_neg (by simp),if_neg (by simp),Bj C hg hr hV]
 | true =>
  rw [if_pos rfl,if_pos rfl];have hr2:(aZ l)[n]? = some true:=by rw [im hg,hr]
  have:∀ b,RB l inp (Wd l inp (pN (aZ l) n)) n b↔RB l inp (Vd l inp) n b:=fun b =>
   ⟨fun h=>Fc C hV h hr2 (bX _),fun h=>Fc C (fun j hj=>(hV j hj).symm) h hr2 (bX _)⟩
  congr 3;funext b;rw [decide_eq_decide];exact this b
end
structure Ed (l:List aN) (inp:ae->ByteArray) (V:Nat->ByteArray):Prop where
 plain:∀ n r,l[n]? = some r->r.f=false->V n=cL (u6 r (dH l inp V r r.c.length))
 ring:∀ n r,l[n]? = some r->r.f=true->∃ u:Nat,V n=cL u/\u<65536/\∀ b,u.testBit b=true↔RB l inp V n b
theorem Cg {u:Nat} (h:u<65536) (ht:u.testBit b=true):b<16:=by
 rcases dZ b 16 with h1 | h1
 ·exact h1
 ·have:2 ^ 16<=2 ^ b:=Cz (by omega) h1;rw [CA (by have:2 ^ 16=65536:=rfl; omega)] at ht;cases ht
theorem Pc {l:List aN} {inp:ae->ByteArray} {V:Nat->ByteArray} (C:aV l) (h:RB l inp V n b):b<16:=by
 induction h with
 | own h1 h2 =>
  rename_i n b r;have hr:=C.each _ _ h1;refine Cg ?_ h2;cases hg:r.f with
  | true=>have:=hr.ring hg; omega
  | false=>have:=hr.plain hg; omega
 | ask h1 h2 h3 h4 =>
  refine Cg ?_ h4;rename_i x;have:=jq (mz l inp V x []);omega
 | ring _ _ _ _ _ ih=>exact ih
theorem u4 {l:List aN} (inp:ae->ByteArray) (C:aV l):Ed l inp (Vd l inp):=by
 refine⟨fun n r h hr=>?_,fun n r h hr=>?_⟩
 ·rw [H0 C (aY h)];unfold JI;rw [h];dsimp only;rw [if_neg (by rw [hr]; simp)]
 ·classical
  rw [H0 C (aY h)];unfold JI;rw [h];dsimp only;rw [if_pos hr];refine⟨_,rfl,Bn _ 16,fun b=>?_⟩;rw [Bo,kg,decide_eq_true_eq,decide_eq_true_eq];exact⟨fun h=>h.2,fun h=>⟨Pc C h,h⟩⟩
end
section
open Go.Lib hiding intOf
variable {a:Nat->Nat} {idx:List Nat} {list:List ae} {m memo memo':List (ae×ByteArray)} {n0:Nat}
theorem KE {a b:ae} (h:a≠b):aK a b=false:=by rw [<- Bool.not_eq_true]; exact fun e=>h ((dI a b).1 e)
theorem FQ (a:ae):aK a a=true:=(dI a a).2 rfl
theorem gC {ν:Type} (k:ae) (v:ν) (m:List (ae×ν)):cF aK k (dS aK k v m)=some v:=by rw [kR dI,FQ]; rfl
theorem lK {ν:Type} {k k':ae} (h:k≠k') (v:ν) (m:List (ae×ν)):cF aK k (dS aK k' v m)=cF aK k m:=by rw [kR dI,KE h]; rfl
def nr (b:ah) (k:ae):a7:=match b.i.find? (fun x=>dt x.d k) with | some x=>x | none=>⟨k,⟨#[]⟩,0⟩
theorem DP {b:ah} (hb:Rm b.i.length) (k:ae):qi b k=some (nr b k):=by
 unfold Rm at hb;have key:loop (fun s:Int=>gF b k s) 0=some (match b.i.find? (fun x=>dt x.d k) with | some x=>Fl.out x | none=>Fl.go ()):=by
  rcases vj (xs:=b.i) (B:=fun s:Int=>gF b k s) (fun x=>dt x.d k) (fun i=>(i:Int)) (s0:=0) rfl (y:=fun _ x=>Fl.out x) (n:=Fl.go ()) (fun i x hx hp=>by
   unfold gF;rw [m9 hx,cond_true,bx,hx,ax,cH (by have:=aY hx; omega)];show cond (dt x.d k) _ _=_;rw [hp]; rfl) (fun i x hx hp=>by
   unfold gF;rw [m9 hx,cond_true,bx,hx,ax];show cond (dt x.d k) _ _=_;rw [hp]; rfl) (by unfold gF; rw [bZ]; rfl) with⟨i,x,h1,h2,h3,h4⟩|⟨h1,h2⟩
  ·rw [h4,Ih (p:=fun x=>dt x.d k) h1 h2 h3]
  ·rw [h2,CD.2 fun x hx=>by rw [h1 x hx]; simp]
 unfold qi;rw [key];unfold nr;cases b.i.find? (fun x=>dt x.d k) <;> rfl
theorem Dv {b:ah} (hb:Rm b.i.length) (k:ae):oL b k=some (nr b k).u:=by
 unfold oL;rw [DP hb]; rfl
theorem EE:cL ((0:Nat):Int)=⟨#[48]⟩:=by
 unfold cL;rw [nx];unfold decDigits;simp
def kJ (m m':List (ae×ByteArray)):Prop:=∀ k v,cF aK k m=some v->cF aK k m'=some v
theorem kJ.refl (m:List (ae×ByteArray)):kJ m m:=fun _ _ h=>h
theorem kJ.trans {a b c:List (ae×ByteArray)} (h:kJ a b) (k:kJ b c):kJ a c:=fun x v e=>k x v (h x v e)
theorem kJ.has {a b:List (ae×ByteArray)} (h:kJ a b) {k:ae} (e:cF aK k a≠none):cF aK k b≠none:=by
 cases O:cF aK k a with
 | none=>exact absurd O e
 | some v=>rw [h k v O]; simp
structure sv (l:List aN) (V:Nat->ByteArray) (b:ah) (s:az):Prop where
 rules:s.l=l
 base:s.b=b
 memo:∀ n,n<l.length->∀ v,cF aK (rk l n) s.e=some v->v=V n
 cell:∀ c,cF aK (bJ c) s.e=none
section
variable {l:List aN} {V:Nat->ByteArray} {b:ah} {inp:ae->ByteArray}
theorem sv.put {s:az} (h:sv l V b s) {n:Nat} (hn:n<l.length) (hl:l.length<=8):sv l V b ⟨s.l,s.b,dS aK (rk l n) (V n) s.e,s.h⟩/\kJ s.e (dS aK (rk l n) (V n) s.e):=by
 refine⟨⟨h.rules,h.base,fun m hm v e=>?_,fun c=>?_⟩,fun k v e=>?_⟩
 ·by_cases O:m=n
  ·subst O;rw [gC] at e;exact (bM e).symm
  ·rw [lK (fun e=>O (rG (by omega) (by omega) e))] at e;exact h.memo m hm v e
 ·rw [lK oX];exact h.cell c
 ·by_cases O:k=rk l n
  ·subst O;rw [gC,h.memo n hn v e]
  ·rw [lK O,e]
def JP (l:List aN) (x:dd):Prop:=x.b1=true∨(aZ l)[x.N.toNat]? ≠ some true
def xf (l:List aN) (V:Nat->ByteArray) (inp:ae->ByteArray) (memo0 memo:List (ae×ByteArray)) (idx:List Nat) (a:Nat->Nat) (x:dd) (v:ByteArray):Prop :=
 (JP l x/\v=mz l inp V x [])∨(¬ JP l x/\((cF aK (rk l x.N.toNat) memo≠none/\v=V x.N.toNat)∨(x.N.toNat∈idx/\v=cL (a x.N.toNat:Nat)/\cF aK (rk l x.N.toNat) memo0=none)))
theorem xf.mono {memo0:List (ae×ByteArray)} {idx':List Nat} {x:dd} {v:ByteArray} (h:xf l V inp memo0 memo idx a x v) (hg:kJ memo memo') (hi:∀ i∈idx,i∈idx'):xf l V inp memo0 memo' idx' a x v:=by
 rcases h with h | ⟨h0,⟨h1,h2⟩|⟨h1,h2,h3⟩⟩
 ·exact .inl h
 ·exact .inr ⟨h0,.inl ⟨hg.has h1,h2⟩⟩
 ·exact .inr ⟨h0,.inr ⟨hi _ h1,h2,h3⟩⟩
def Vw (l:List aN) (V:Nat->ByteArray) (inp:ae->ByteArray) (memo:List (ae×ByteArray)) (a:Nat->Nat) (x:dd) (q:Nat):Prop :=
 (JP l x/\(gT (mz l inp V x [])).toNat.testBit q=true)∨(¬ JP l x/\((cF aK (rk l x.N.toNat) memo≠none/\RB l inp V x.N.toNat q)∨(a x.N.toNat).testBit q=true))
def Fb (l:List aN) (V:Nat->ByteArray) (inp:ae->ByteArray) (memo:List (ae×ByteArray)) (a:Nat->Nat) (i q:Nat):Prop:=∃ r,l[i]? = some r/\(r.C.toNat.testBit q=true∨∃ x∈r.c,Vw l V inp memo a x q)
theorem Fb.mono {a':Nat->Nat} {i q:Nat} (h:Fb l V inp memo a i q) (hg:kJ memo memo') (ha:∀ j q,(a j).testBit q=true->(a' j).testBit q=true):Fb l V inp memo' a' i q:=by
 obtain⟨r,h1,h2 | ⟨x,h2,h3⟩⟩:=h
 ·exact⟨r,h1,.inl h2⟩
 ·refine⟨r,h1,.inr ⟨x,h2,?_⟩⟩;rcases h3 with h3 | ⟨h0,⟨h3,h4⟩ | h3⟩
  ·exact .inl h3
  ·exact .inr ⟨h0,.inl ⟨hg.has h3,h4⟩⟩
  ·exact .inr ⟨h0,.inr (ha _ _ h3)⟩
structure AW (l:List aN) (V:Nat->ByteArray) (inp:ae->ByteArray) (n0:Nat) (memo:List (ae×ByteArray)) (m:List (ae×ByteArray)) (list:List ae) (idx:List Nat) (a:Nat->Nat):Prop where
 eq:list=idx.map (rk l)
 nd:idx.Nodup
 ring:∀ i∈idx,i<l.length/\(aZ l)[i]? = some true/\pN (aZ l) i<=pN (aZ l) n0
 head:n0∈idx
 get:∀ i,i<l.length->cF aK (rk l i) m=if i∈idx then some (cL (a i:Nat)) else none
 zero:∀ i,i ∉ idx->a i=0
 lt:∀ i,a i<65536
 le:∀ i q,(a i).testBit q=true->RB l inp V i q
 up:∀ i∈idx,∀ q,(a i).testBit q=true->Fb l V inp memo a i q
theorem KU (hn:idx.Nodup) {N:Nat} (h:∀ i∈idx,i<N):idx.length<=N:=by
 have:=oE hn (m:=List.range N) fun x hx=>Eb.2 (h x hx);rwa [List.length_range] at this
theorem AW.len (h:AW l V inp n0 memo m list idx a):list.length=idx.length/\idx.length<=l.length :=
 ⟨by rw [h.eq,m5],KU h.nd fun i hi=>(h.ring i hi).1⟩
theorem AW.grow (h:AW l V inp n0 memo m list idx a) (hg:kJ memo memo'):AW l V inp n0 memo' m list idx a :=
 ⟨h.eq,h.nd,h.ring,h.head,h.get,h.zero,h.lt,h.le,fun i hi q hq=>(h.up i hi q hq).mono hg fun _ _ e=>e⟩
theorem AW.add (h:AW l V inp n0 memo m list idx a) (hl:l.length<=8) {j:Nat} (hj:j<l.length) (hr:(aZ l)[j]? = some true) (O:pN (aZ l) j<=pN (aZ l) n0) (hn:j ∉ idx) :
  AW l V inp n0 memo (dS aK (rk l j) ⟨#[48]⟩ m) (list++[rk l j]) (idx++[j]) a:=by
 refine⟨by rw [h.eq,vT]; rfl,?_,?_,iB _ h.head,?_,fun i hi=>h.zero i fun e=>hi (iB _ e),h.lt,h.le,?_⟩
 ·rw [List.nodup_append];exact⟨h.nd,by simp,fun x hx y hy=>by rw [bK.1 hy]; exact fun e=>hn (e▸hx)⟩
 ·intro i hi;rcases cD.1 hi with hi | hi
  ·exact h.ring i hi
  ·rw [bK.1 hi]; exact⟨hj,hr,O⟩
 ·intro i hi;by_cases e:i=j
  ·subst e;rw [gC,if_pos (pR _ (bK.2 rfl)),h.zero i hn,EE]
  ·rw [lK (fun e2=>e (rG (by omega) (by omega) e2)),h.get i hi];have:(i∈idx++[j])↔i∈idx:=by rw [cD,bK]; exact⟨fun h=>h.resolve_right e,.inl⟩
   simp only [this]
 ·intro i hi q hq;rcases cD.1 hi with hi | hi
  ·exact h.up i hi q hq
  ·rw [bK.1 hi,h.zero j hn] at hq;simp at hq
end
end
section
open Go.Lib hiding intOf
theorem FF:∀ (xs:List Nat) (c q:Nat),(xs.foldl (· ||| ·) c).testBit q=true↔c.testBit q=true∨∃ x∈xs,x.testBit q=true
 | [],c,q=>by simp
 | x::xs,c,q=>by
  rw [GO,FF xs (c ||| x) q,Nat.testBit_or,uO];simp only [cI];constructor
  ·rintro ((h | h) | ⟨y,h1,h2⟩)
   ·exact .inl h
   ·exact .inr ⟨x,.inl rfl,h⟩
   ·exact .inr ⟨y,.inr h1,h2⟩
  ·rintro (h | ⟨y,rfl | h1,h2⟩)
   ·exact .inl (.inl h)
   ·exact .inl (.inr h2)
   ·exact .inr ⟨y,h1,h2⟩
section
variable {l:List aN} {V:Nat->ByteArray} {b:ah} {inp:ae->ByteArray}
theorem FC (C:aV l) {n:Nat} {r:aN} (h:l[n]? = some r) (hr:r.f=true) (ls:List ByteArray) :
  ∃ m:Nat,u6 r ls=m/\m<65536/\∀ q,m.testBit q=true↔r.C.toNat.testBit q=true∨∃ v∈ls,(gT v).toNat.testBit q=true:=by
 obtain⟨h1,h2,h3⟩:=(C.each n r h).ring hr;obtain⟨c,hc⟩:∃ c:Nat,r.C=c:=⟨r.C.toNat,by omega⟩;have e:ls.map gT=(ls.map fun s=>(gT s).toNat).map fun x:Nat=>(x:Int):=by
  rw [List.map_map];refine List.map_congr_left fun s _=>?_;have:=jq s;simp only [Function.comp];omega
 have:=EB (ls.map fun s=>(gT s).toNat) c (fun x hx=>by
  obtain⟨s,_,rfl⟩:=fG.1 hx;have:=jq s;omega) (by omega)
 refine⟨(ls.map fun s=>(gT s).toNat).foldl (· ||| ·) c,?_,this.2,fun q=>?_⟩
 ·unfold u6;dsimp only;rw [if_neg (by omega),if_neg (by omega),if_neg (by omega),if_neg (by omega),e,hc];exact this.1
 ·rw [FF,hc];rw [show ((c:Nat):Int).toNat=c from oQ c];refine or_congr Iff.rfl ⟨fun ⟨x,hx,hq⟩=>?_,fun ⟨v,hv,hq⟩=>⟨_,fG.2 ⟨v,hv,rfl⟩,hq⟩⟩;obtain⟨v,hv,rfl⟩:=fG.1 hx;exact⟨v,hv,hq⟩
def O9 (l:List aN) (V:Nat->ByteArray) (b:ah) (inp:ae->ByteArray) (n0:Nat) (a:Nat->Nat) (i:Nat) (r:aN) (memo0:List (ae×ByteArray)) (idx0:List Nat) (ch0:Bool) (k:Nat) :
  (List (ae×ByteArray))×(List ae)×Bool×(List ByteArray)×(List aN)×Int×(List a7)×(List au)×(List (ae×ByteArray))×(List (ae×(List ae)))×Bool×ByteArray×Int×ByteArray->Prop
 | (m,list,ch,ws,rules,rev,inps,recs,memo,seen,d,v,ak,at_) =>
  ∃ (idx:List Nat),AW l V inp n0 memo m list idx a/\sv l V b (az.mk rules (ah.mk rev inps recs) memo seen)/\kJ memo0 memo/\idx0 <+: idx/\((ch=ch0/\idx=idx0)∨(ch=true/\idx0.length<idx.length)) /\
   ws.length=k/\(∀ q x,q<k->r.c[q]? = some x->∃ v,ws[q]? = some v/\xf l V inp memo0 memo idx a x v)/\ej l (rk l i) ws=some ⟨d,v,⟨ak,at_⟩⟩
def JQ (l:List aN) (V:Nat->ByteArray) (b:ah) (inp:ae->ByteArray) (n0:Nat) (a:Nat->Nat) (i:Nat) (r:aN) (memo0:List (ae×ByteArray)) (idx0:List Nat) (ch0:Bool) :
  (List (ae×ByteArray))×(List ae)×Bool×(List aN)×Int×(List a7)×(List au)×(List (ae×ByteArray))×(List (ae×(List ae)))×Bool×ByteArray×Int×ByteArray->Prop
 | (m,list,ch,rules,rev,inps,recs,memo,seen,d,v,ak,at_) =>
  ∃ (idx:List Nat) (ws:List ByteArray),AW l V inp n0 memo m list idx a/\sv l V b (az.mk rules (ah.mk rev inps recs) memo seen)/\kJ memo0 memo/\idx0 <+: idx/\((ch=ch0/\idx=idx0)∨(ch=true/\idx0.length<idx.length)) /\
   ws.length=r.c.length/\(∀ (q:Nat) (x:dd),r.c[q]? = some x->∃ (w:ByteArray),ws[q]? = some w/\xf l V inp memo0 memo idx a x w)/\v=cL (u6 r ws)
section
variable {n0:Nat} {a:Nat->Nat} {i p:Nat} {r:aN} {memo0:List (ae×ByteArray)} {idx0:List Nat} {ch0:Bool} (C:aV l) (hi:l[i]? = some r) (hr:r.f=true) (hp:idx0[p]? = some i)
include C hi
theorem uK {ws:List ByteArray} (h:ws.length<=r.c.length):∃ t,ej l (rk l i) ws=some t/\((ws.length=r.c.length/\t=⟨true,cL (u6 r ws),⟨0,⟨#[]⟩⟩⟩)∨∃ x,r.c[ws.length]? = some x/\t=⟨false,⟨#[]⟩,iO l x ws⟩):=by
 rcases dZ ws.length r.c.length with h1 | h1
 ·exact⟨_,Cj C hi (bA h1),.inr ⟨_,bA h1,rfl⟩⟩
 ·exact⟨_,Aj C hi h1,.inl ⟨by omega,by rw [vI (by omega)]⟩⟩
include hp
theorem QT {k:Nat} {m:List (ae×ByteArray)} {list:List ae} {ch:Bool} {ws:List ByteArray} {rules:List aN} {rev:Int} {inps:List a7} {recs:List au} {memo:List (ae×ByteArray)} {seen:List (ae×(List ae))} {idx:List Nat} {x:dd} {v:ByteArray}
  (h1:AW l V inp n0 memo m list idx a) (h2:sv l V b (az.mk rules (ah.mk rev inps recs) memo seen)) (h3:kJ memo0 memo) (h4:idx0 <+: idx) (h5:(ch=ch0/\idx=idx0)∨(ch=true/\idx0.length<idx.length))
  (h6:ws.length=k) (h7:∀ q x,q<k->r.c[q]? = some x->∃ v,ws[q]? = some v/\xf l V inp memo0 memo idx a x v) (hx:r.c[k]? = some x) (hv:xf l V inp memo0 memo idx a x v) :
  Ok (cV p ws m list ch v rules rev inps recs memo seen) fun y=>match y with
   | .go s'=>k<r.c.length/\O9 l V b inp n0 a i r memo0 idx0 ch0 (k+1) s'
   | .out y=>JQ l V b inp n0 a i r memo0 idx0 ch0 y:=by
 have O:=aY hx;have h3l:=(C.each i r hi).asks;obtain⟨t,ht,_⟩:=uK C hi (ws:=ws++[v]) (by rw [cS,h6]; simp; omega);have hlist:bu list (p:Int)=some (rk l i):=by
  obtain⟨u,rfl⟩:=h4;rw [bx,h1.eq,wK,m4 (aY hp),hp]; rfl
 have hru:rules=l:=h2.rules;unfold cV;refine bY (du (by simp; omega)) (aH hlist (aH (by rw [hru]; exact ht) (ai ⟨O,idx,h1,h2,h3,h4,h5,by rw [cS,h6]; rfl,fun q y hq hy=>?_,ht⟩)));rcases dZ q k with h | h
 ·obtain⟨w,hw1,hw2⟩:=h7 q y h hy;exact⟨w,by rw [m4 (aY hw1)]; exact hw1,hw2⟩
 ·obtain rfl:q=k:=by omega
  rw [hx] at hy;obtain rfl:=bM hy;exact⟨v,by rw [pQ (by omega),h6]; simp,hv⟩
end
end
end
section
open Go.Lib hiding intOf
structure Oc (l:List aN) (V:Nat->ByteArray) (b:ah) (inp:ae->ByteArray) (ρ:Nat) (vrec:az->ae->Option (ByteArray×az)):Prop where
 rule:∀ s n,sv l V b s->n<l.length->pN (aZ l) n<ρ->Ok (vrec s (rk l n)) fun y=>y.1=V n/\sv l V b y.2/\kJ s.e y.2.e
 cell:∀ s c,sv l V b s->c<10->Ok (vrec s (bJ c)) fun y=>y.1=inp (bJ c)/\y.2=s
section
variable {l:List aN} {V:Nat->ByteArray} {b:ah} {inp:ae->ByteArray} {vrec:az->ae->Option (ByteArray×az)}
variable {n0:Nat} {a:Nat->Nat} {i p:Nat} {r:aN} {memo0:List (ae×ByteArray)} {idx0:List Nat} {ch0:Bool} (C:aV l) (hv:Oc l V b inp (pN (aZ l) n0) vrec) (hi:l[i]? = some r) (hr:r.f=true) (hp:idx0[p]? = some i)
include C hv hi hr hp
theorem QV {k:Nat} (O:k<=r.c.length):∀ s,O9 l V b inp n0 a i r memo0 idx0 ch0 k s->Ok (dW vrec p s.1 s.2.1 s.2.2.1 s.2.2.2.1 s.2.2.2.2.1 s.2.2.2.2.2.1 s.2.2.2.2.2.2.1 s.2.2.2.2.2.2.2.1 s.2.2.2.2.2.2.2.2.1 s.2.2.2.2.2.2.2.2.2.1 s.2.2.2.2.2.2.2.2.2.2.1 s.2.2.2.2.2.2.2.2.2.2.2.1 s.2.2.2.2.2.2.2.2.2.2.2.2.1 s.2.2.2.2.2.2.2.2.2.2.2.2.2) fun y=>match y with
   | .go s'=>k<r.c.length/\O9 l V b inp n0 a i r memo0 idx0 ch0 (k+1) s'
   | .out y=>JQ l V b inp n0 a i r memo0 idx0 ch0 y:=by
 rintro⟨m,list,ch,ws,rules,rev,inps,recs,memo,seen,d,v,ak,at_⟩ ⟨idx,h1,h2,h3,h4,h5,h6,h7,h8⟩;dsimp only;have hl8:=C.high;obtain⟨t,ht,hcase⟩:=uK C hi (ws:=ws) (by omega);rw [h8] at ht;obtain rfl:=bM ht;have hiI:i∈idx:=h4.subset (aO hp);unfold dW;rcases hcase with⟨e1,e2⟩|⟨x,hx,e2⟩
 ·injection e2 with ed ev ea;subst ed;simp only [dC,cond_false];exact ai ⟨idx,ws,h1,h2,h3,h4,h5,e1,fun q x hx=>h7 q x (by have:=aY hx; omega) hx,ev⟩
 ·injection e2 with ed ev ea;subst ed;rw [h6] at hx;have n1:=uC C hi hr hx ws;have n2:=uC C hi hr hx [];obtain⟨g0,hg⟩:=lC C hi hx ws;simp only [nO,cond_true,ax];rw [ea];have done:∀ {m list ch rules rev inps recs memo seen} {idx:List Nat} {w:ByteArray},AW l V inp n0 memo m list idx a->sv l V b (az.mk rules (ah.mk rev inps recs) memo seen)->kJ memo0 memo->idx0 <+: idx->((ch=ch0/\idx=idx0)∨(ch=true/\idx0.length<idx.length)) ->
    (∀ q x,q<k->r.c[q]? = some x->∃ v,ws[q]? = some v/\xf l V inp memo0 memo idx a x v)->xf l V inp memo0 memo idx a x w->Ok (cV p ws m list ch w rules rev inps recs memo seen) fun y=>match y with
   | .go s'=>k<r.c.length/\O9 l V b inp n0 a i r memo0 idx0 ch0 (k+1) s'
   | .out y=>JQ l V b inp n0 a i r memo0 idx0 ch0 y:=fun q1 q2 q3 q4 q5 q6 q7=>QT C hi hp q1 q2 q3 q4 q5 h6 q6 hx q7
  rcases hg with⟨hc,c,hc4,e3,e4⟩|⟨hc,j,hj,e3,e4⟩
  ·have hB:JP l x:=.inl hc;have U:mz l inp V x []=inp (bJ c):=by
    unfold mz iO;rw [if_pos hc,if_pos hc,n2,<- n1,e3]; rfl
   rw [e4,h2.cell c];simp only [E3,cond_false];refine aH (iN _) ?_;rw [IY];simp only [nO,cond_true];refine aD (hv.cell _ c h2 hc4) fun y hy=>?_;obtain⟨y1,y2⟩:=y;obtain⟨f1,f2⟩:=hy;simp only at f1 f2;subst f1 f2;exact done h1 h2 h3 h4 h5 h7 (.inl ⟨hB,U.symm⟩)
  ·have hll:=vh (aY hi);have hjl:j<l.length:=by omega
   have hxj:x.N.toNat=j:=by omega
   have hri:(aZ l)[i]? = some true:=by rw [im hi,hr]
   have hio:=h1.ring i hiI;rw [e4];cases hm:cF aK (rk l j) memo with
   | some w =>
    have hw:=h2.memo j hjl w hm;simp only [E4,cond_true,yi];refine done h1 h2 h3 h4 h5 h7 ?_;by_cases hB:JP l x
    ·refine .inl ⟨hB,?_⟩;unfold mz;rw [if_neg (by rw [hc]; simp),n2,hxj,hw]
    ·exact .inr ⟨hB,.inl ⟨by rw [hxj,hm]; simp,by rw [hxj,hw]⟩⟩
   | none =>
    simp only [E3,cond_false];refine aH (iN _) ?_;rw [Ir];by_cases hrj:(aZ l)[j]? = some true
    ·have hB:¬ JP l x:=by
      rintro (h | h)
      ·rw [hc] at h; cases h
      ·rw [hxj] at h; exact h hrj
     have hm0:cF aK (rk l x.N.toNat) memo0=none:=by
      rw [hxj];cases h0:cF aK (rk l j) memo0 with
      | none=>rfl
      | some w=>rw [h3 _ _ h0] at hm; cases hm
     rw [decide_eq_true hrj];simp only [dC,cond_false];have hg:=h1.get j hjl;by_cases hjI:j∈idx
     ·rw [if_pos hjI] at hg;rw [hg];simp only [E4,dC,cond_false];unfold dV;rw [ea,e4,hg];exact done h1 h2 h3 h4 h5 h7 (.inr ⟨hB,.inr ⟨by rw [hxj]; exact hjI,by rw [hxj]; rfl,hm0⟩⟩)
     ·rw [if_neg hjI] at hg;rw [hg];simp only [E3,nO,cond_true];have hL:kd (rk l j)=some ⟨#[48]⟩:=by
       unfold kd;rcases qM (l:=l) (n:=j) with⟨_,h⟩|⟨h,_⟩
       ·exact absurd hrj h
       ·rw [h]; rfl
      have hadd:=h1.add hl8 hjl hrj (by have:=Ae hri hj hrj; omega) hjI;have hlen:=h1.len;refine aH hL (bY (du (by simp; omega)) ?_);unfold dV;rw [ea,e4,gC];refine done hadd h2 h3 (h4.trans (List.prefix_append _ _)) (.inr ⟨rfl,?_⟩) (fun q y hq hy=>?_) (.inr ⟨hB,.inr ⟨by rw [hxj]; exact pR _ (bK.2 rfl),?_,hm0⟩⟩)
      ·have:=h4.length_le;rw [cS]; simp; omega
      ·obtain⟨w,q1,q2⟩:=h7 q y hq hy;exact⟨w,q1,q2.mono (kJ.refl _) fun _ h=>iB _ h⟩
      ·rw [hxj,h1.zero j hjI,EE]; rfl
    ·have hB:JP l x:=.inr (by rw [hxj]; exact hrj);have U:mz l inp V x []=V j:=by
      unfold mz;rw [if_neg (by rw [hc]; simp),n2,hxj]
     rw [decide_eq_false hrj];simp only [nO,cond_true];have hlow:=x6 hri hj hrj;refine aD (hv.rule _ j h2 hjl (by rw [uE hrj]; omega)) fun y hy=>?_;obtain⟨f1,f2,f3⟩:=hy;exact done (h1.grow f3) f2 (h3.trans f3) h4 h5 (fun q y hq hy=>by
      obtain⟨w,q1,q2⟩:=h7 q y hq hy;exact⟨w,q1,q2.mono f3 fun _ h=>h⟩) (.inl ⟨hB,by rw [U,f1]⟩)
theorem LA {m:List (ae×ByteArray)} {list:List ae} {rules:List aN} {rev:Int} {inps:List a7} {recs:List au} {seen:List (ae×(List ae))} (h1:AW l V inp n0 memo0 m list idx0 a) (h2:sv l V b (az.mk rules (ah.mk rev inps recs) memo0 seen)) {t:t8} (ht:ej l (rk l i) []=some t) {β:Type} {R:β->Prop} {g:_->Option β} (hg:∀ y,JQ l V b inp n0 a i r memo0 idx0 ch0 y->Ok (g y) R) :
  Ok ((loop (fun s:(List (ae×ByteArray))×(List ae)×Bool×(List ByteArray)×(List aN)×Int×(List a7)×(List au)×(List (ae×ByteArray))×(List (ae×(List ae)))×Bool×ByteArray×Int×ByteArray=>dW vrec p s.1 s.2.1 s.2.2.1 s.2.2.2.1 s.2.2.2.2.1 s.2.2.2.2.2.1 s.2.2.2.2.2.2.1 s.2.2.2.2.2.2.2.1 s.2.2.2.2.2.2.2.2.1 s.2.2.2.2.2.2.2.2.2.1 s.2.2.2.2.2.2.2.2.2.2.1 s.2.2.2.2.2.2.2.2.2.2.2.1 s.2.2.2.2.2.2.2.2.2.2.2.2.1 s.2.2.2.2.2.2.2.2.2.2.2.2.2) (m,list,ch0,[],rules,rev,inps,recs,memo0,seen,t.c1,t.u,t.x1.v,t.x1.x)).bind g) R:=by
 refine bz (O9 l V b inp n0 a i r memo0 idx0 ch0) (JQ l V b inp n0 a i r memo0 idx0 ch0) r.c.length ?_ (fun k s O hI=>(QV C hv hi hr hp O s hI).mono fun y hy=>by cases y <;> exact hy) hg;exact⟨idx0,h1,h2,kJ.refl _,List.prefix_refl _,.inl ⟨rfl,rfl⟩,rfl,fun q x hq=>absurd hq (by omega),ht⟩
end
end
section
open Go.Lib hiding intOf
def Ah (a:Nat->Nat):Nat->Nat
 | 0=>0
 | n+1=>Ah a n+a n
theorem Iu {a a':Nat->Nat} (h:∀ j,a j<=a' j):∀ n,Ah a n<=Ah a' n
 | 0=>bX _
 | n+1=>Nat.add_le_add (Iu h n) (h n)
theorem Iv {a a':Nat->Nat} (h:∀ j,a j<=a' j) {i:Nat} (hi:a i<a' i):∀ n,i<n->Ah a n<Ah a' n
 | 0,h0=>absurd h0 (by omega)
 | n+1,h0=>by
  have h1:=h n;have h2:=Iu h n;show Ah a n+a n<Ah a' n+a' n;rcases dZ i n with h3 | h3
  ·have:=Iv h hi n h3; omega
  ·obtain rfl:i=n:=by omega
   omega
theorem Cf {a:Nat->Nat} (h:∀ j,a j<65536):∀ n,Ah a n<=n*65536
 | 0=>by simp [Ah]
 | n+1=>by
  have:=Cf h n;have:=h n;show Ah a n+a n<=_;omega
theorem Md {a m:Nat} (h:∀ q,a.testBit q=true->m.testBit q=true):a<=m:=by
 have:a &&& m=a:=by
  apply E2;intro q;rw [Nat.testBit_and];cases ha:a.testBit q with
  | false=>rfl
  | true=>rw [h q ha]; rfl
 rw [<- this];exact Nat.and_le_right
section
variable {l:List aN} {V:Nat->ByteArray} {b:ah} {inp:ae->ByteArray} {vrec:az->ae->Option (ByteArray×az)}
def ZY (l:List aN) (V:Nat->ByteArray) (inp:ae->ByteArray) (idx:List Nat) (a:Nat->Nat) (i:Nat):Prop :=
 ∃ r,l[i]? = some r/\(∀ q,r.C.toNat.testBit q=true->(a i).testBit q=true)/\∀ x∈r.c,(JP l x->∀ q,(gT (mz l inp V x [])).toNat.testBit q=true->(a i).testBit q=true) /\
  (¬ JP l x->(∀ q,RB l inp V x.N.toNat q->(a i).testBit q=true)∨(x.N.toNat∈idx/\∀ q,(a x.N.toNat).testBit q=true->(a i).testBit q=true))
theorem Hh {idx:List Nat} {a:Nat->Nat} (hc:∀ i∈idx,ZY l V inp idx a i) {i q:Nat} (h:RB l inp V i q):i∈idx->(a i).testBit q=true:=by
 induction h with
 | own h1 h2 =>
  intro hi;obtain⟨r,g1,g2,g3⟩:=hc _ hi;rw [h1] at g1;obtain rfl:=bM g1;exact g2 _ h2
 | ask h1 h2 h3 h4 =>
  intro hi;obtain⟨r,g1,g2,g3⟩:=hc _ hi;rw [h1] at g1;obtain rfl:=bM g1;exact (g3 _ h2).1 h3 _ h4
 | ring h1 h2 h3 h4 h5 ih =>
  intro hi;obtain⟨r,g1,g2,g3⟩:=hc _ hi;rw [h1] at g1;obtain rfl:=bM g1;rcases (g3 _ h2).2 (by rintro (h | h); rw [h3] at h; cases h; exact h h4) with h | ⟨h,k⟩
  ·exact h _ h5
  ·exact k _ (ih h)
theorem yF (C:aV l) (hD:Ed l inp V) {j:Nat} (hj:(aZ l)[j]? = some true):∃ u:Nat,V j=cL u/\u<65536/\(gT (V j)).toNat=u/\∀ q,u.testBit q=true↔RB l inp V j q:=by
 have hl:j<l.length:=by have:=aY hj; unfold aZ at this; rwa [m5] at this
 have hg:=bA hl;obtain⟨u,h1,h2,h3⟩:=hD.ring j l[j] hg (by rw [kZ hl] at hj; exact bM hj);exact⟨u,h1,h2,by rw [h1,tc h2]; omega,h3⟩
theorem Ck {n:Nat} (h:n<65536):(gT (cL (n:Int))).toNat=n:=by rw [tc h]; omega
theorem Hu {x:dd} (h:¬ JP l x):x.b1=false/\(aZ l)[x.N.toNat]? = some true:=by
 constructor
 ·cases hc:x.b1 with
  | false=>rfl
  | true=>exact absurd (.inl hc) h
 ·exact II fun e=>h (.inr e)
theorem AW.set {n0:Nat} {memo m:List (ae×ByteArray)} {list:List ae} {idx:List Nat} {a:Nat->Nat} (h:AW l V inp n0 memo m list idx a) (hl:l.length<=8) {i u:Nat} (hi:i∈idx) (hu:u<65536) (hlow:∀ q,(a i).testBit q=true->u.testBit q=true) (hRB:∀ q,u.testBit q=true->RB l inp V i q) (hF:∀ q,u.testBit q=true->Fb l V inp memo a i q) :
  AW l V inp n0 memo (dS aK (rk l i) (cL (u:Int)) m) list idx (fun j=>if j=i then u else a j):=by
 have hmono:∀ j q,(a j).testBit q=true->(if j=i then u else a j).testBit q=true:=by
  intro j q hq;by_cases e:j=i
  ·rw [if_pos e]; rw [e] at hq; exact hlow q hq
  ·rw [if_neg e]; exact hq
 refine⟨h.eq,h.nd,h.ring,h.head,fun j hj=>?_,fun j hj=>?_,fun j=>?_,fun j q hq=>?_,fun j hj q hq=>?_⟩
 ·by_cases e:j=i
  ·subst e;rw [gC,if_pos hi,if_pos rfl]
  ·rw [lK (fun e2=>e (rG (by omega) (by have:=(h.ring i hi).1; omega) e2)),h.get j hj];simp only [if_neg e]
 ·have:j≠i:=fun e=>hj (e▸hi);show (if j=i then u else a j)=0;rw [if_neg this]; exact h.zero j hj
 ·show (if j=i then u else a j)<65536;split
  ·exact hu
  ·exact h.lt j
 ·by_cases e:j=i
  ·rw [if_pos e] at hq; rw [e]; exact hRB q hq
  ·rw [if_neg e] at hq; exact h.le j q hq
 ·by_cases e:j=i
  ·rw [if_pos e] at hq; rw [e]; exact (hF q hq).mono (kJ.refl _) hmono
  ·rw [if_neg e] at hq; exact (h.up j hj q hq).mono (kJ.refl _) hmono
section
variable {n0:Nat} {a:Nat->Nat} {i:Nat} {r:aN} {memo0 memo m m0:List (ae×ByteArray)} {idx0 idx:List Nat} {list list0:List ae} {ws:List ByteArray} {u:Nat} (C:aV l) (hD:Ed l inp V) (hi:l[i]? = some r) (hr:r.f=true)
 (h0:AW l V inp n0 memo0 m0 list0 idx0 a) (h1:AW l V inp n0 memo m list idx a) (hiI:i∈idx0) (hlen:ws.length=r.c.length) (hans:∀ (q:Nat) (x:dd),r.c[q]? = some x->∃ (w:ByteArray),ws[q]? = some w/\xf l V inp memo0 memo idx a x w)
 (hu:∀ q,u.testBit q=true↔r.C.toNat.testBit q=true∨∃ v∈ws,(gT v).toNat.testBit q=true)
include C hD hi h0 h1 hiI hlen hans hu
omit hlen in
theorem ME (q:Nat) (hq:(a i).testBit q=true):u.testBit q=true:=by
 obtain⟨r',g1,g2⟩:=h0.up i hiI q hq;rw [hi] at g1;obtain rfl:=bM g1;rcases g2 with g2 | ⟨x,g2,g3⟩
 ·exact (hu q).2 (.inl g2)
 ·obtain⟨k,O⟩:=iD.1 g2;obtain⟨w,w1,w2⟩:=hans k x O;refine (hu q).2 (.inr ⟨w,aO w1,?_⟩);rcases w2 with⟨w2,rfl⟩|⟨w2,w3⟩
  ·rcases g3 with⟨_,g3⟩|⟨g3,_⟩
   ·exact g3
   ·exact absurd w2 g3
  ·obtain⟨u',d1,d2,d3,d4⟩:=yF C hD (Hu w2).2;rcases g3 with⟨g3,_⟩|⟨_,g3⟩
   ·exact absurd g3 w2
   ·rcases w3 with⟨_,rfl⟩|⟨_,rfl,w5⟩
    ·rw [d3,d4];rcases g3 with⟨_,g3⟩ | g3
     ·exact g3
     ·exact h1.le _ _ g3
    ·rw [Ck (h1.lt _)];rcases g3 with⟨g3,_⟩ | g3
     ·exact absurd w5 g3
     ·exact g3
omit h0 hiI in
theorem OE (q:Nat) (hq:u.testBit q=true):RB l inp V i q/\Fb l V inp memo a i q:=by
 rcases (hu q).1 hq with g | ⟨w,g1,g2⟩
 ·exact⟨.own hi g,r,hi,.inl g⟩
 ·obtain⟨k,O⟩:=iD.1 g1;have hk2:=aY O;have hx:=bA (l:=r.c) (i:=k) (by omega);obtain⟨w',w1,w2⟩:=hans k _ hx;rw [O] at w1;obtain rfl:=bM w1;have hm:=aO hx;rcases w2 with⟨w2,rfl⟩|⟨w2,w3⟩
  ·exact⟨.ask hi hm w2 g2,r,hi,.inr ⟨_,hm,.inl ⟨w2,g2⟩⟩⟩
  ·obtain⟨u',d1,d2,d3,d4⟩:=yF C hD (Hu w2).2;rcases w3 with⟨w3,rfl⟩|⟨_,rfl,w5⟩
   ·rw [d3,d4] at g2;exact⟨.ring hi hm (Hu w2).1 (Hu w2).2 g2,r,hi,.inr ⟨_,hm,.inr ⟨w2,.inl ⟨w3,g2⟩⟩⟩⟩
   ·rw [Ck (h1.lt _)] at g2;exact⟨.ring hi hm (Hu w2).1 (Hu w2).2 (h1.le _ _ g2),r,hi,.inr ⟨_,hm,.inr ⟨w2,.inr g2⟩⟩⟩
omit h0 hiI hlen in
theorem OD (hau:a i=u):ZY l V inp idx a i:=by
 refine⟨r,hi,fun q hq=>?_,fun x hx=>?_⟩
 ·rw [hau]; exact (hu q).2 (.inl hq)
 ·obtain⟨k,O⟩:=iD.1 hx;obtain⟨w,w1,w2⟩:=hans k x O;have hw:∀ q,(gT w).toNat.testBit q=true->(a i).testBit q=true:=fun q hq=>by
   rw [hau]; exact (hu q).2 (.inr ⟨w,aO w1,hq⟩)
  rcases w2 with⟨w2,rfl⟩|⟨w2,w3⟩
  ·exact⟨fun _ q hq=>hw q hq,fun h=>absurd w2 h⟩
  ·obtain⟨u',d1,d2,d3,d4⟩:=yF C hD (Hu w2).2;refine⟨fun h=>absurd h w2,fun _=>?_⟩;rcases w3 with⟨_,rfl⟩|⟨w3,rfl,_⟩
   ·exact .inl fun q hq=>hw q (by rw [d3,d4]; exact hq)
   ·exact .inr ⟨w3,fun q hq=>hw q (by rw [Ck (h1.lt _)]; exact hq)⟩
end
end
end
section
open Go.Lib hiding intOf
section
variable {l:List aN} {V:Nat->ByteArray} {b:ah} {inp:ae->ByteArray} {vrec:az->ae->Option (ByteArray×az)}
def mu (l:List aN) (idx:List Nat) (a:Nat->Nat):Nat:=idx.length+Ah a l.length
def Jm (l:List aN) (V:Nat->ByteArray) (b:ah) (inp:ae->ByteArray) (n0:Nat) (memo1:List (ae×ByteArray)) (idx1:List Nat) (a1:Nat->Nat) (k:Nat) :
  (List (ae×ByteArray))×(List ae)×Bool×Int×(List aN)×Int×(List a7)×(List au)×(List (ae×ByteArray))×(List (ae×(List ae)))->Prop
 | (m,list,ch,p,rules,rev,inps,recs,memo,seen) =>
  ∃ (idx:List Nat) (a:Nat->Nat),p=(k:Int)/\k<=idx.length/\AW l V inp n0 memo m list idx a/\sv l V b (az.mk rules (ah.mk rev inps recs) memo seen)/\kJ memo1 memo /\
   ((ch=false/\idx=idx1/\a=a1/\∀ (q i:Nat),q<k->idx[q]? = some i->ZY l V inp idx a i)∨(ch=true/\mu l idx1 a1<mu l idx a))
def Jo (l:List aN) (V:Nat->ByteArray) (b:ah) (inp:ae->ByteArray) (n0:Nat) (memo1:List (ae×ByteArray)) (idx1:List Nat) (a1:Nat->Nat) :
  (List (ae×ByteArray))×(List ae)×Bool×(List aN)×Int×(List a7)×(List au)×(List (ae×ByteArray))×(List (ae×(List ae)))->Prop
 | (m,list,ch,rules,rev,inps,recs,memo,seen) =>
  ∃ (idx:List Nat) (a:Nat->Nat),AW l V inp n0 memo m list idx a/\sv l V b (az.mk rules (ah.mk rev inps recs) memo seen)/\kJ memo1 memo /\
   ((ch=false/\∀ i∈idx,ZY l V inp idx a i)∨(ch=true/\mu l idx1 a1<mu l idx a))
section
variable {n0:Nat} {memo1:List (ae×ByteArray)} {idx1:List Nat} {a1:Nat->Nat} (C:aV l) (hD:Ed l inp V) (hv:Oc l V b inp (pN (aZ l) n0) vrec)
include C hD hv
theorem Oy {k:Nat} (O:k<=l.length):∀ s,Jm l V b inp n0 memo1 idx1 a1 k s->Ok (eB vrec s.1 s.2.1 s.2.2.1 s.2.2.2.1 s.2.2.2.2.1 s.2.2.2.2.2.1 s.2.2.2.2.2.2.1 s.2.2.2.2.2.2.2.1 s.2.2.2.2.2.2.2.2.1 s.2.2.2.2.2.2.2.2.2) fun y=>match y with
   | .go s'=>k<l.length/\Jm l V b inp n0 memo1 idx1 a1 (k+1) s'
   | .out y=>Jo l V b inp n0 memo1 idx1 a1 y:=by
 rintro⟨m,list,ch,p,rules,rev,inps,recs,memo,seen⟩ ⟨idx,a,rfl,hkl,h1,h2,h3,h4⟩;dsimp only;have hl8:=C.high;obtain⟨len1,len2⟩:=h1.len;unfold eB;refine aE (fun hb=>?_) (fun hb=>?_)
 ·have hlt:k<idx.length:=by have:=of_decide_eq_true hb; omega
  have hp:=bA hlt;have hiI:=aO hp;generalize idx[k]=i at hp hiI;obtain⟨hil,hir,hio⟩:=h1.ring i hiI;have hi:=bA hil;generalize l[i]=r at hi;have hr:r.f=true:=by rw [im hi] at hir; exact bM hir
  obtain⟨t,ht,_⟩:=uK C hi (ws:=[]) (by simp);have hget:bu list ((k:Nat):Int)=some (rk l i):=by rw [bx,h1.eq,wK,hp]; rfl
  have hru:rules=l:=h2.rules;refine aH hget (aH (by rw [hru]; exact ht) ?_);unfold gx;refine LA C hv hi hr hp h1 h2 ht ?_;rintro⟨m',list',ch',rules',rev',inps',recs',memo',seen',d',v',ak',at'⟩ ⟨idx',ws,g1,g2,g3,g4,g5,g6,g7,g8⟩;dsimp only;obtain⟨u,hu1,hu2,hu3⟩:=FC C hi hr ws;rw [hu1] at g8;subst g8;have hp':idx'[k]? = some i:=by
   obtain⟨z,rfl⟩:=g4;rw [m4 hlt]; exact hp
  have hiI':i∈idx':=g4.subset hiI;have hget':bu list' ((k:Nat):Int)=some (rk l i):=by rw [bx,g1.eq,wK,hp']; rfl
  have hm:=g1.get i hil;rw [if_pos hiI'] at hm;have hlen':=g4.length_le;have hk1:k+1<=idx'.length:=aY hp';have hwr:IntKind.i64.wrap ((k:Int)+1)=((k+1:Nat):Int):=cH (by omega);unfold fa;refine aH hget' ?_;rw [hm];simp only [yi,ax];by_cases e:a i=u
  ·rw [e,show ((cL (u:Int)).toList==(cL (u:Int)).toList)=true by simp];simp only [dC,cond_false];unfold dU;rw [hwr];refine ai ⟨by omega,idx',a,rfl,hk1,g1,g2,h3.trans g3,?_⟩;rcases g5 with⟨e1,e2⟩|⟨e1,e2⟩
   ·subst e1 e2;rcases h4 with⟨q1,q2,q3,q4⟩|⟨q1,q2⟩
    ·refine .inl ⟨q1,q2,q3,fun q j hq hj=>?_⟩;rcases dZ q k with hq2 | hq2
     ·exact q4 q j hq2 hj
     ·obtain rfl:q=k:=by omega
      rw [hp'] at hj;obtain rfl:=bM hj;exact OD C hD hi g1 g7 hu3 e
    ·exact .inr ⟨q1,q2⟩
   ·refine .inr ⟨e1,?_⟩;unfold mu at h4 ⊢;rcases h4 with⟨q1,q2,q3,q4⟩|⟨q1,q2⟩
    ·rw [<- q2,<- q3]; omega
    ·omega
  ·have hne:((cL ((a i:Nat):Int)).toList==(cL (u:Int)).toList)=false:=by
    rw [beq_eq_false_iff_ne];exact fun h=>e (zN (g1.lt i) hu2 (toList_inj h))
   rw [hne];simp only [nO,cond_true];refine aH hget' ?_;unfold dU;rw [hwr];have hlow:=ME C hD hi h1 g1 hiI g7 hu3;have hup:=OE C hD hi g1 g6 g7 hu3;have tj:=g1.set hl8 hiI' hu2 hlow (fun q hq=>(hup q hq).1) (fun q hq=>(hup q hq).2);refine ai ⟨by omega,idx',_,rfl,hk1,tj,g2,h3.trans g3,.inr ⟨rfl,?_⟩⟩;have hle:a i<=u:=Md hlow;have hs:Ah a l.length<Ah (fun j=>if j=i then u else a j) l.length:=by
    refine Iv (i:=i) (fun j=>?_) ?_ _ hil
    ·show a j<=if j=i then u else a j;split
     ·rename_i hj; rw [hj]; exact hle
     ·exact bX _
    ·show a i<if i=i then u else a i;rw [if_pos rfl]; omega
   unfold mu at h4 ⊢;rcases h4 with⟨q1,q2,q3,q4⟩|⟨q1,q2⟩
   ·rw [<- q2,<- q3]; omega
   ·omega
 ·have hge:¬ k<idx.length:=by have:=of_decide_eq_false hb; omega
  refine ai ⟨idx,a,h1,h2,h3,?_⟩;rcases h4 with⟨q1,q2,q3,q4⟩|⟨q1,q2⟩
  ·refine .inl ⟨q1,fun i hi=>?_⟩;obtain⟨q,hq⟩:=iD.1 hi;exact q4 q i (by have:=aY hq; omega) hq
  ·exact .inr ⟨q1,q2⟩
def Io (l:List aN) (V:Nat->ByteArray) (b:ah) (inp:ae->ByteArray) (n0:Nat) (memo1:List (ae×ByteArray)) (k:Nat) :
  (List (ae×ByteArray))×(List ae)×Bool×(List aN)×Int×(List a7)×(List au)×(List (ae×ByteArray))×(List (ae×(List ae)))->Prop
 | (m,list,ch,rules,rev,inps,recs,memo,seen) =>
  ∃ (idx:List Nat) (a:Nat->Nat),AW l V inp n0 memo m list idx a/\sv l V b (az.mk rules (ah.mk rev inps recs) memo seen)/\kJ memo1 memo /\
   ((ch=false/\∀ i∈idx,ZY l V inp idx a i)∨(ch=true/\k<=mu l idx a))
def Fo (l:List aN) (V:Nat->ByteArray) (b:ah) (inp:ae->ByteArray) (n0:Nat) (memo1:List (ae×ByteArray)) :
  (List (ae×ByteArray))×(List ae)×(List aN)×Int×(List a7)×(List au)×(List (ae×ByteArray))×(List (ae×(List ae)))->Prop
 | (m,list,rules,rev,inps,recs,memo,seen) =>
  ∃ (idx:List Nat) (a:Nat->Nat),AW l V inp n0 memo m list idx a/\sv l V b (az.mk rules (ah.mk rev inps recs) memo seen)/\kJ memo1 memo/\∀ i∈idx,ZY l V inp idx a i
omit hD hv in
theorem KS {memo m:List (ae×ByteArray)} {list:List ae} {idx:List Nat} {a:Nat->Nat} (h:AW l V inp n0 memo m list idx a):mu l idx a<=600000:=by
 have:=Cf h.lt l.length;have:=h.len.2;have:=C.high;unfold mu;omega
theorem Oz {k:Nat}:∀ s,Io l V b inp n0 memo1 k s->Ok (eC vrec s.1 s.2.1 s.2.2.1 s.2.2.2.1 s.2.2.2.2.1 s.2.2.2.2.2.1 s.2.2.2.2.2.2.1 s.2.2.2.2.2.2.2.1 s.2.2.2.2.2.2.2.2) fun y=>match y with
   | .go s'=>k<600001/\Io l V b inp n0 memo1 (k+1) s'
   | .out y=>Fo l V b inp n0 memo1 y:=by
 rintro⟨m,list,ch,rules,rev,inps,recs,memo,seen⟩ ⟨idx,a,h1,h2,h3,h4⟩;dsimp only;unfold eC;refine aE (fun hb=>?_) (fun hb=>?_)
 ·subst hb;have h5:k<=mu l idx a:=by
   rcases h4 with⟨h,_⟩|⟨_,h⟩
   ·cases h
   ·exact h
  have hbd:=KS C h1;refine bz (Jm l V b inp n0 memo idx a) (Jo l V b inp n0 memo idx a) l.length ⟨idx,a,rfl,bT _,h1,h2,kJ.refl _,.inl ⟨rfl,rfl,rfl,fun q i hq=>absurd hq (by omega)⟩⟩
   (fun k s O hI=>(Oy C hD hv O s hI).mono fun y hy=>by cases y <;> exact hy) ?_
  rintro⟨m',list',ch',rules',rev',inps',recs',memo',seen'⟩ ⟨idx',a',g1,g2,g3,g4⟩;refine ai ⟨by omega,idx',a',g1,g2,h3.trans g3,?_⟩;rcases g4 with⟨q1,q2⟩|⟨q1,q2⟩
  ·exact .inl ⟨q1,q2⟩
  ·exact .inr ⟨q1,by omega⟩
 ·subst hb;refine ai ⟨idx,a,h1,h2,h3,?_⟩;rcases h4 with⟨_,h⟩|⟨h,_⟩
  ·exact h
  ·cases h
omit hv in
theorem Ks {m list memo idx a} (h1:AW l V inp n0 memo m list idx a) (hc:∀ i∈idx,ZY l V inp idx a i) {i:Nat} (hi:i∈idx):cL ((a i:Nat):Int)=V i:=by
 obtain⟨u,d1,d2,d3,d4⟩:=yF C hD (h1.ring i hi).2.1;rw [d1];congr 2;apply E2;intro q;rw [Bool.eq_iff_iff,d4];exact⟨h1.le i q,fun h=>Hh hc h hi⟩
theorem Lr {s:az} (hs:sv l V b s) (hn:n0<l.length) (hr0:(aZ l)[n0]? = some true) :
  Ok (ie vrec s (rk l n0)) fun s'=>sv l V b s'/\kJ s.e s'.e/\cF aK (rk l n0) s'.e=some (V n0):=by
 have hl8:=C.high;have hL:kd (rk l n0)=some ⟨#[48]⟩:=by
  unfold kd;rcases qM (l:=l) (n:=n0) with⟨_,h⟩|⟨h,_⟩
  ·exact absurd hr0 h
  ·rw [h]; rfl
 unfold ie;refine aH hL ?_;unfold gy;have U:AW l V inp n0 s.e (dS aK (rk l n0) ⟨#[48]⟩ []) [rk l n0] [n0] (fun _=>0):=by
  refine⟨rfl,by simp,fun i hi=>?_,bK.2 rfl,fun i hi=>?_,fun _ _=>rfl,fun _=>by simp,fun i q hq=>by simp at hq,fun i _ q hq=>by simp at hq⟩
  ·rw [bK.1 hi]; exact⟨hn,hr0,bX _⟩
  ·by_cases e:i=n0
   ·subst e;rw [gC,if_pos (bK.2 rfl),EE]
   ·rw [lK (fun e2=>e (rG (by omega) (by omega) e2)),if_neg (by simpa using e)]; rfl
 refine bz (Io l V b inp n0 s.e) (Fo l V b inp n0 s.e) 600001 ⟨[n0],fun _=>0,U,hs,kJ.refl _,.inr ⟨rfl,bT _⟩⟩
  (fun k s O hI=>(Oz C hD hv s hI).mono fun y hy=>by cases y <;> exact hy) ?_
 rintro⟨m,list,rules,rev,inps,recs,memo,seen⟩ ⟨idx,a,h1,h2,h3,h4⟩;obtain⟨len1,len2⟩:=h1.len;dsimp only;unfold e9;refine bz (fun (k:Nat) (st:Int×List (ae×ByteArray))=>st.1=k/\k<=idx.length/\sv l V b (az.mk rules (ah.mk rev inps recs) st.2 seen)/\kJ s.e st.2/\∀ (q i:Nat),q<k->idx[q]? = some i->cF aK (rk l i) st.2=some (V i))
  (fun memo'=>sv l V b (az.mk rules (ah.mk rev inps recs) memo' seen)/\kJ s.e memo'/\cF aK (rk l n0) memo'=some (V n0)) idx.length ⟨rfl,bT _,h2,h3,fun q i hq=>absurd hq (by omega)⟩ ?_ ?_
 ·rintro k ⟨p,memo'⟩ O ⟨rfl,_,g1,g2,g3⟩;dsimp only;unfold iv;refine aE (fun hb=>?_) (fun hb=>?_)
  ·have hlt:k<idx.length:=by have:=of_decide_eq_true hb; omega
   have hp:=bA hlt;have hiI:=aO hp;generalize idx[k]=i at hp hiI;obtain⟨hil,_⟩:=h1.ring i hiI;have hget:bu list ((k:Nat):Int)=some (rk l i):=by rw [bx,h1.eq,wK,hp]; rfl
   refine aH hget ?_;have hm:=h1.get i hil;rw [if_pos hiI,Ks C hD h1 h4 hiI] at hm;rw [hm];simp only [yi,ax];obtain⟨p1,p2⟩:=g1.put hil hl8;refine ai ⟨hlt,cH (by omega),hlt,p1,g2.trans p2,fun q j hq hj=>?_⟩;rcases dZ q k with hq2 | hq2
   ·exact p2 _ _ (g3 q j hq2 hj)
   ·obtain rfl:q=k:=by omega
    rw [hp] at hj;obtain rfl:=bM hj;exact gC _ _ _
  ·have hge:¬ k<idx.length:=by have:=of_decide_eq_false hb; omega
   obtain⟨q,hq⟩:=iD.1 h1.head;exact ai ⟨g1,g2,g3 q n0 (by have:=aY hq; omega) hq⟩
 ·rintro memo' ⟨g1,g2,g3⟩;exact ai ⟨g1,g2,g3⟩
end
end
end
section
set_option maxRecDepth 100000 in
set_option maxHeartbeats 4000000 in
theorem CW (T:Nat->Prop) (L:World) (hT:∀ k,T k->k<L.heap.size) (hD:xH T L []) (g:(List bp)) (P:Value) (b8:aF aB (dT T []) L P g) (y:(List bp)) (B:eo g=some y) (S:bp) (a5:bu y (IntKind.i64.wrap ((y.length:Int)-1))=some S):bg aR (MD []) 183 [P] L (fun v w'=>∃ (cl:bI) (Z:Value) (X:bI) (v3:Value) (Y:bI),bk (HR aB) (dT T [.own v 202 aB.size cl,.own Z 30 ad.size X,.own v3 9 a6.str.size Y]) w' cl (ft y (IntKind.i64.wrap ((y.length:Int)-1)) [aj S.d.v,a8 S.d.x,.bool S.m,aj S.r1,Z,v3])/\bk ad (dT T [.own v 202 aB.size cl,.own Z 30 ad.size X,.own v3 9 a6.str.size Y]) w' X S.k/\bk a6.str (dT T [.own v 202 aB.size cl,.own Z 30 ad.size X,.own v3 9 a6.str.size Y]) w' Y S.q/\mx L w' [] [.own v 202 aB.size cl,.own Z 30 ad.size X,.own v3 9 a6.str.size Y]):=by
 refine fT (c:=_) Tryz.func183 rfl T 26 Tryz.ntmps183 hT rfl hD fun a I=>?_;replace I:=I.fact (aL aB P g) b8;unfold eo at B;refine rq fun K26 av=>?_;refine qa I fun a I=>?_;refine rz (av _ _ ?_);refine rq fun K27 b0=>?_;refine qa I fun a I=>?_;refine rz (b0 _ _ ?_);refine aM (J:=fun a w=>∃ (W:(List bp)) (Q:Value) (A:(bI)) (N:List bp) (j:bp) (G:Value) (D:bI) (H:Value) (E:bI),W=N++[j]/\St L (MD []) T 26 [(3,Q)] [.own Q 202 aB.size A,.own G 30 ad.size D,.own H 9 a6.str.size E] [ap (HR aB) A (BO N [aj j.d.v,a8 j.d.x,.bool j.m,aj j.r1,G,H]),ap ad D j.k,ap a6.str E j.q] a w/\cX W=some y) ?_ ?_
 ·refine rq fun K40 b2=>?_;refine qm I fun a I=>?_;refine qy I (N5 (R:=aB) (xs:=g) I wE rfl 0 rfl) fun a I=>?_;refine qm I fun a I=>?_;refine rz (b2 _ _ ?_);refine wp_block ?_;replace I:=I.zn aB 202 (by decide);obtain⟨r1,b7,hMo1⟩:=bd B;refine bF (fun s:(List bp)×Int=>cn g s.1 s.2) (fun s a w=>∃ (e:(List bp)) (f:Int) (t:Value) (p:(bI)),(e,f)=s/\((e=[]/\St L (MD []) T 26 [(3,t),(6,P),(7,aj (g.length:Int)),(8,aj f)] [.own t 202 aB.size p] [ap aB p e,aL aB P g] a w)∨∃ (N:List bp) (j:bp) (G:Value) (D:bI) (H:Value) (E:bI),e=N++[j]/\St L (MD []) T 26 [(3,t),(6,P),(7,aj (g.length:Int)),(8,aj f)] [.own t 202 aB.size p,.own G 30 ad.size D,.own H 9 a6.str.size E] [ap (HR aB) p (BO N [aj j.d.v,a8 j.d.x,.bool j.m,aj j.r1,G,H]),ap ad D j.k,ap a6.str E j.q,aL aB P g] a w)) b7 ⟨([]:List bp),0,(.slice none 0 0),([]),rfl,.inl ⟨rfl,(I.meet [0] (by decide) ⟨rfl,rfl,rfl,rfl,trivial⟩ ⟨rfl,trivial⟩ ⟨⟨0,rfl⟩,⟨1,rfl⟩,trivial⟩)⟩⟩ ?_;rintro s a w f1 ⟨e,f,t,p,rfl,a4⟩ B hf1;by_cases hlt:f<(g.length:Int)
  ·have I:St L (MD []) T 26 [(3,t),(6,P),(7,aj (g.length:Int)),(8,aj f)] [.own t 202 aB.size p] [ap aB p e,aL aB P g] a w:=by
    rcases a4 with⟨_,I⟩|⟨N,j,G,D,H,E,ho,I⟩
    · exact I
    replace I:=(I.zf (R:=ad) 1 rfl 1 rfl).zf (R:=a6.str) 1 rfl 3 rfl;replace I:=I.closeLast (R:=aB) (x:=j) 2 rfl ⟨_,_,rfl,I.get 1 rfl,I.get 0 rfl⟩;rw [<- ho] at I;exact I.meet [0] (by decide) ⟨rfl,rfl,rfl,rfl,trivial⟩ ⟨rfl,trivial⟩ ⟨⟨0,rfl⟩,⟨6,rfl⟩,trivial⟩
   have B:cn g e f=some f1:=B;unfold cn at B;refine rq fun K51 F=>?_;refine qy I (GC I rfl rfl rfl) fun a I=>?_;refine rz (F _ _ ?_);refine wp_seq_k fun K52 V=>?_;have r:decide (f<(g.length:Int))=true:=decide_eq_true hlt;replace B:=ct r B;refine Se I rfl r ?_;refine wp_skip ?_;refine V _ _ ?_;refine wp_seq_k fun K53 b3=>?_;refine wp_block ?_;refine rq fun K54 b4=>?_;obtain⟨b,a1,B⟩:=bd B;refine wl rfl (bn (R:=aB) I wE wF rfl rfl 1 rfl a1 rfl fun b9 c1 bi af a I=>?_);obtain⟨K,M,rfl,a2,a3⟩:=af;replace I:=(I.fact (aL ad K b.k) a2).fact (aL a6.str M b.q) a3;refine qy I (w6 (k:=0) I wF 2 rfl rfl (fun _ h=>h.elim) (us:=[aj b.d.v,a8 b.d.x,.bool b.m,aj b.r1,K,M]) rfl rfl (fun h=>by cases h)) fun a I=>?_;refine wl rfl (df I uS rfl fun z bt a w O I=>?_);refine wl rfl (vd I rfl rfl (us:=[aj b.d.v,a8 b.d.x,.bool b.m,aj b.r1,K,M]) rfl wF 0 rfl rfl rfl (oc rfl (oc rfl (oc rfl (oc rfl (oc (aF.one ((I.get 1 rfl):aF ad _ _ _ _)) (oc (aF.one ((I.get 0 rfl):aF a6.str _ _ _ _)) on)))))) fun w O I=>?_);refine rz (b4 _ _ ?_);refine wp_seq_k fun K55 b5=>?_;replace I:=(I.zn ad 30 (by decide)).zn a6.str 9 (by decide);refine NO [(2,.blk (Value.ownBlock (.slice none 0 0))),(5,.blk (Value.ownBlock (.slice none 0 0))),(7,.blk (some z)),(9,.blk (some z))] I mixed rfl (fun c a d v w h=>by cases d <;> exact h) fun w hQ I=>?_;refine dy 0 (v:=.pointer (some ⟨z,0+4,none⟩)) rfl (by kernel_rfl) (by kernel_rfl) (by kernel_rfl) rfl hQ I (GB I rfl Ez) rfl rfl rfl fun a I=>?_;refine dy (l:=[]) 1 (v:=K) rfl (by kernel_rfl) (by kernel_rfl) (by kernel_rfl) (by kernel_rfl) hQ I (dm I rfl HN 2 rfl bO (us:=[K]) rfl rfl (fun _=>rfl)) rfl rfl rfl fun a I=>?_;refine dy 3 (v:=.pointer (some ⟨z,0+5,none⟩)) rfl (by kernel_rfl) (by kernel_rfl) (by kernel_rfl) rfl hQ I (GB I rfl EA) rfl rfl rfl fun a I=>?_;refine dy (l:=[.blk (Value.ownBlock (.slice none 0 0))]) 4 (v:=M) rfl (by kernel_rfl) (by kernel_rfl) (by kernel_rfl) (by kernel_rfl) hQ I (dm I rfl HO 2 rfl (gA I 2 rfl rfl 0 rfl rfl (by decide) bO) (us:=[M]) rfl rfl (fun _=>rfl)) rfl rfl rfl fun a I=>?_;obtain⟨ag,B⟩:=aW B;refine vG (i:=2) rfl (by kernel_rfl) rfl (bG (R:=ad) (xs:=([]:List ae)) (ys:=b.k) I iA (by decide) (by decide) rfl rfl 1 rfl 1 rfl 3 rfl ag rfl fun n bl a w O I=>⟨jf rfl O kO,?_⟩);refine dy 6 (v:=.pointer (some ⟨z,0+4,none⟩)) rfl (by kernel_rfl) (by kernel_rfl) (by kernel_rfl) rfl hQ I (GB I rfl Ez) rfl rfl rfl fun a I=>?_;obtain⟨ak,B⟩:=aW B;refine vG (i:=5) rfl (by kernel_rfl) rfl (bG (R:=a6.str) (xs:=([]:List ByteArray)) (ys:=b.q) I zK (by decide) (by decide) rfl rfl 0 rfl 1 rfl 3 rfl ak rfl fun o bs a w O I=>⟨jf rfl O kO,?_⟩);refine vG (i:=7) rfl (by kernel_rfl) rfl (vd I rfl rfl (us:=[n]) (m8 (iS (I.own _ (aO (i:=1) rfl)).1)) HN 2 rfl rfl rfl (oc (iS (I.own _ (aO (i:=1) rfl)).1) on) fun w O I=>⟨jf rfl O gB,?_⟩);refine dy 8 (v:=.pointer (some ⟨z,0+5,none⟩)) rfl (by kernel_rfl) (by kernel_rfl) (by kernel_rfl) rfl hQ I (GB I rfl EA) rfl rfl rfl fun a I=>?_;refine vG (i:=9) rfl (by kernel_rfl) rfl (vd I rfl rfl (us:=[o]) (m8 (iS (I.own _ (aO (i:=0) rfl)).1)) HO 2 rfl rfl rfl (oc (iS (I.own _ (aO (i:=0) rfl)).1) on) fun w O I=>⟨jf rfl O gB,?_⟩);refine Gx (by kernel_rfl) ?_ _;refine b5 _ _ ?_;refine Hz ?_;refine qm I fun a I=>?_;refine qy I (dm I rfl wF 2 rfl id (us:=[aj b.d.v,a8 b.d.x,.bool b.m,aj b.r1,n,o]) rfl rfl (fun h=>by cases h)) fun a I=>?_;refine wl rfl (bf (ps:=[(0,.tmp 21)]) I yG uS (zl:=[aj 0,a8 cp,.bool false,aj 0,.slice none 0 0,.slice none 0 0]) (by kernel_rfl) rfl (us:=[[aj b.d.v,a8 b.d.x,.bool b.m,aj b.r1,n,o]]) ⟨rfl,trivial⟩ (ws:=[aj b.d.v,a8 b.d.x,.bool b.m,aj b.r1,n,o]) rfl rfl rfl rfl fun bb a w O I=>?_);have hone:∀ u∈([aj b.d.v,a8 b.d.x,.bool b.m,aj b.r1,n,o]:bI),u.oneCell'=true:=oc rfl (oc rfl (oc rfl (oc rfl (oc (iS (I.own _ (aO (i:=2) rfl)).1) (oc (iS (I.own _ (aO (i:=1) rfl)).1) on)))));replace I:=(I.lit (R:=HR aB) (us:=[aj b.d.v,a8 b.d.x,.bool b.m,aj b.r1,n,o]) (xs:=[Sum.inl [aj b.d.v,a8 b.d.x,.bool b.m,aj b.r1,n,o]]) 0 rfl (by decide) (aP (R:=HR aB) (x:=Sum.inl [aj b.d.v,a8 b.d.x,.bool b.m,aj b.r1,n,o]) ⟨rfl,rfl,hone⟩) rfl rfl).zf (R:=HR aB) 0 rfl 0 rfl;obtain⟨ao,B⟩:=aW B;replace I:=I.openH (R:=aB) (cl:=p) (xs:=e) 9 rfl;refine wl rfl (bG (R:=HR aB) (xs:=e.map Sum.inr) (ys:=[Sum.inl [aj b.d.v,a8 b.d.x,.bool b.m,aj b.r1,n,o]]) I yG (by decide) (by decide) rfl rfl 3 rfl 0 rfl 1 rfl (by rw [m5]; exact ao) rfl fun b6 a9 a w O I=>?_);refine qa I fun a I=>?_;refine rz (b3 _ _ ?_);refine Hz ?_;refine qy I (GC I rfl rfl rfl) fun a I=>?_;refine qm I fun a I=>?_;refine wpList_nil ?_;exact⟨((e++([(bp.mk b.d b.m b.r1 (([]:List ae)++b.k) (([]:List ByteArray)++b.q))])),IntKind.i64.wrap (f+1)),(bM B).symm,(e++([(bp.mk b.d b.m b.r1 (([]:List ae)++b.k) (([]:List ByteArray)++b.q))])),(IntKind.i64.wrap (f+1)),b6,a9,rfl,.inr ⟨e,(bp.mk b.d b.m b.r1 (([]:List ae)++b.k) (([]:List ByteArray)++b.q)),n,_,o,_,rfl,(I.meet [3,1,0] (by decide) ⟨rfl,rfl,rfl,rfl,trivial⟩ ⟨rfl,rfl,rfl,trivial⟩ ⟨⟨0,rfl⟩,⟨5,rfl⟩,⟨4,rfl⟩,⟨12,rfl⟩,trivial⟩)⟩⟩
  rcases a4 with⟨ho,I⟩|⟨N,j,G,D,H,E,ho,I⟩
  ·have B:cn g e f=some f1:=B;unfold cn at B;refine rq fun K51 F=>?_;refine qy I (GC I rfl rfl rfl) fun a I=>?_;refine rz (F _ _ ?_);refine wp_seq_k fun K52 V=>?_;have r:decide (f<(g.length:Int))=false:=decide_eq_false hlt;replace B:=cf r B;refine RC I rfl r ?_;refine wp_exit ?_;injection B with B;subst B;have hr:=hf1 _ rfl;subst hr;have B:cX e=some y:=hMo1;subst ho;unfold cX at B;obtain rfl:=bM B;exact absurd a5 (by simp [bu])
  have B:cn g e f=some f1:=B;unfold cn at B;refine rq fun K51 F=>?_;refine qy I (GC I rfl rfl rfl) fun a I=>?_;refine rz (F _ _ ?_);refine wp_seq_k fun K52 V=>?_;have r:decide (f<(g.length:Int))=false:=decide_eq_false hlt;replace B:=cf r B;refine RC I rfl r ?_;refine wp_exit ?_;injection B with B;subst B;have hr:=hf1 _ rfl;subst hr;have B:cX e=some y:=hMo1;exact⟨e,t,p,N,j,G,D,H,E,ho,(I.meet [0,1,2] (by decide) ⟨rfl,trivial⟩ ⟨rfl,rfl,rfl,trivial⟩ ⟨⟨0,rfl⟩,⟨1,rfl⟩,⟨2,rfl⟩,trivial⟩),B⟩
 rintro a w ⟨W,Q,A,N,j,G,D,H,E,ho,I,B⟩;unfold cX at B;refine rq fun K39 b1=>?_;refine qm I fun a I=>?_;refine qa I fun a I=>?_;refine rz (b1 _ _ ?_);refine wp_ret ?_;injection B with B;subst B;refine aG I Tryz.results183 (aw I rfl aI) ?_;subst ho;obtain⟨rfl,hix⟩:=KL (Nat.le_of_succ_le (by have:=KY (R:=HR aB) I 0 rfl 0 rfl; simpa [BO] using this)) a5;have hZ:=I.meet (G':=[]) (D':=[.own Q 202 aB.size A,.own G 30 ad.size D,.own H 9 a6.str.size E]) (F':=[ap (HR aB) A (BO N [aj j.d.v,a8 j.d.x,.bool j.m,aj j.r1,G,H]),ap ad D j.k,ap a6.str E j.q]) [0,1,2] (by decide) trivial ⟨rfl,rfl,rfl,trivial⟩ ⟨⟨0,rfl⟩,⟨1,rfl⟩,⟨2,rfl⟩,trivial⟩;exact⟨_,_,_,_,_,by rw [Dy hix]; exact hZ.get 0 rfl,hZ.get 1 rfl,hZ.get 2 rfl,hZ.zd⟩
end
section
set_option maxRecDepth 100000
set_option maxHeartbeats 4000000
variable (T:Nat->Prop) (L:World) (hT:TW T L)
include hT
noncomputable section
def qI (c:(au×Bool)) (b:Bool):=cond b (some ((c.1.u,true))) (some ((cp,false)))
def kq (c:ah) (d:ae):=(cu d).bind fun e=>cond e ((oL c d).bind fun f=>some ((f,true))) ((cm c.s d).bind fun b=>cond b.2 (qI b (b.1.t==c.r)) (qI b false))
theorem za (b:ah) (c:ae) (t u:Value) (q:aF ac T L t b.i) (r:aF aa T L u b.s) (y:ByteArray×Bool) (B:kq b c=some y):bg aR No 39 [.agg (aU b t u).toArray,.agg (aX c).toArray] L (fun v w'=>v = .tuple #[a8 y.1,.bool y.2]):=by
 refine en Tryz.func39 Tryz.ntmps39 hT fun a I=>?_;replace I:=(I.fS (aF.dn q)).fS (aF.dn r);unfold kq at B;refine kB I fun x A a w O I=>?_;refine kb I fun z D a w O I=>?_;refine am I fun a I=>?_;refine aC ?_;refine am I fun a I=>?_;obtain⟨F,m,B⟩:=bd B;refine kF I yx (da _ _ I.dlt c _ m) fun w a I=>?_;rcases cd B with⟨o,B⟩|⟨o,B⟩
 ·refine am I fun a I=>?_;obtain⟨G,n,B⟩:=bd B;refine kF I Mm (tA _ _ I.dlt b c _ _ I.g1 I.g0 _ n) fun w a I=>?_;cases B
  refine aG I Tryz.results39 (aw I rfl (aw I rfl aI)) ?_;exact rfl
 refine am I fun a I=>?_;refine aC ?_;refine am I fun a I=>?_;obtain⟨e,l,B⟩:=bd B;refine kc I rM (bR _ _ I.dlt b.s c _ I.g0 _ l) fun _ w C a O U=>?_;obtain⟨j,g,he,h⟩:=C;obtain rfl:=he.symm;have I:=qs U h;refine kA I eJ fun f E a w O I=>?_;refine go I fun a w I=>?_;refine aM (J:=fun a w=>∃ (d:Bool),St L No T 30 [(6,pt f 0),(27,.bool d)] [aA j g,.box f (bh e.1 j) 33] [ap ad g e.1.k] a w/\qI e d=some y) ?_ ?_
 ·exact fz
 rintro a w ⟨d,I,B⟩;unfold qI at B;rcases cd B with⟨p,B⟩|⟨p,B⟩
 ·refine am I fun a I=>?_;cases B
  refine aG I Tryz.results39 (aw I rfl (aw I rfl aI)) ?_;exact rfl
 refine am I fun a I=>?_;cases B
 refine aG I Tryz.results39 (aw I rfl (aw I rfl aI)) ?_;exact rfl
def mP (vrec:az->ae->Option (ByteArray×az)) (f:az) (k:ah) (d:ae):=(cO d).bind fun g=>cond g ((vrec f d).bind fun c=>some ((c.1,(az.mk c.2.l (ah.mk c.2.b.r c.2.b.i c.2.b.s) c.2.e c.2.h)))) ((kq k d).bind fun j=>some ((j.1,f)))
theorem ww (vrec:az->ae->Option (ByteArray×az)) (hvrec:ov vrec) (g:az) (G:ah) (H:ae) (V W:Value) (o:Nat) (x z A:Value) (d:Nat) (k:Array MapEntry) (n f:Nat) (m:Array MapEntry) (j:Nat) (hD:xH T L [xS o x g.b.r z A d f,om d k n,om f m j]) (ak:aF an (dT T [xS o x g.b.r z A d f,om d k n,om f m j]) L x g.l) (ao:aF ac (dT T [xS o x g.b.r z A d f,om d k n,om f m j]) L z g.b.i) (av:aF aa (dT T [xS o x g.b.r z A d f,om d k n,om f m j]) L A g.b.s) (af:bE ad true a6.str false (dT T [xS o x g.b.r z A d f,om d k n,om f m j]) L k g.e) (ag:bE ad true (a6.slice ad) false (dT T [xS o x g.b.r z A d f,om d k n,om f m j]) L m g.h) (a3:aF ac (dT T [xS o x g.b.r z A d f,om d k n,om f m j]) L V G.i) (a4:aF aa (dT T [xS o x g.b.r z A d f,om d k n,om f m j]) L W G.s) (hLv:dh (dT T [xS o x g.b.r z A d f,om d k n,om f m j]) L) (y:ByteArray×az) (B:mP vrec g G H=some y):bg aR (MD [xS o x g.b.r z A d f,om d k n,om f m j]) 217 [pt o 0,.agg (aU G V W).toArray,.agg (aX H).toArray] L (fun v w'=>∃ (D E F:Value) (p:Array MapEntry) (t:Nat) (q:Array MapEntry) (u:Nat),v=a8 y.1/\mx L w' [xS o x g.b.r z A d f,om d k n,om f m j] [xS o D y.2.b.r E F d f,om d p t,om f q u]/\aF an (dT T [xS o D y.2.b.r E F d f,om d p t,om f q u]) w' D y.2.l/\aF ac (dT T [xS o D y.2.b.r E F d f,om d p t,om f q u]) w' E y.2.b.i/\aF aa (dT T [xS o D y.2.b.r E F d f,om d p t,om f q u]) w' F y.2.b.s/\bE ad true a6.str false (dT T [xS o D y.2.b.r E F d f,om d p t,om f q u]) w' p y.2.e/\bE ad true (a6.slice ad) false (dT T [xS o D y.2.b.r E F d f,om d p t,om f q u]) w' q y.2.h):=by
 refine fT (c:=_) Tryz.func217 rfl T 21 Tryz.ntmps217 hT rfl hD fun a I=>?_;replace I:=(((((((I.fact bH hLv).fS a3).fS a4).fS ak).fS ao).fS av).fM af).fM ag;unfold mP at B;refine kB I fun b0 b3 a w O I=>?_;refine kb I fun b2 b4 a w O I=>?_;refine am I fun a I=>?_;refine aC ?_;refine am I fun a I=>?_;obtain⟨b6,Q,B⟩:=bd B;refine kF I uf (cY _ _ I.dlt H _ Q) fun w a I=>?_;rcases cd B with⟨a1,B⟩|⟨a1,B⟩
 ·refine am I fun a I=>?_;obtain⟨b7,R,B⟩:=bd B;replace I:=I.re [2,3,4] [0,1];refine wl rfl (ci I Dp rfl rfl (hvrec _ _ I.zt g H _ _ _ _ _ _ _ _ _ _ I.dok I.d4 I.d3 I.d2 I.d1 I.d0 I.d7 _ R) fun _ w C a O U=>?_);obtain⟨a5,a9,ab,Z,X,a0,Y,he,a2,M,N,P,J,K⟩:=C;obtain rfl:=he.symm;have I:=U _ a2;replace I:=((((I.fS (M.sub (ay _))).fS (N.sub (ay _))).fS (P.sub (ay _))).fM (J.keep (al _ _) (ay _))).fM (K.keep (al _ _) (ay _));refine am I fun a I=>?_;cases B
  refine aG I rfl (aw I rfl aI) ?_;have hZ:=I.sl [0,1,2] [4,3,2,1,0];exact⟨a5,a9,ab,Z,X,a0,Y,rfl,hZ.zd,hZ.g0,hZ.g1,hZ.g2,hZ.g3,hZ.g4⟩
 refine am I fun a I=>?_;obtain⟨b9,S,B⟩:=bd B;refine kF I QG (za _ _ I.dlt G H _ _ I.g6 I.g5 _ S) fun w a I=>?_;cases B
 refine aG I rfl (aw I rfl aI) ?_;have hZ:=I.sl [2,3,4] [4,3,2,1,0];exact⟨x,z,A,k,n,m,j,rfl,hZ.zd,hZ.g0,hZ.g1,hZ.g2,hZ.g3,hZ.g4⟩
def qK (b:ah) (c:LR):=some ((ah.mk b.r b.i c))
def li (c:Int) (b:LR):Option (Fl (Int×LR) (LR)):=some (.go (IntKind.i64.wrap (c+1),b))
def nI (h:LK) (g:Bool) (i:ah) (b:Int) (c:LR):=cond (decide (b<(i.s.length:Int))) ((bu c b).bind fun l=>(jO h l.d).bind fun m=>cond (!(m)) (li b c) (cond g ((bu c b).bind fun e=>li b (c.set (Int.toNat b) (au.mk e.d e.u e.k e.a e.t e.j true))) ((bu c b).bind fun f=>li b (c.set (Int.toNat b) (au.mk f.d f.u f.k f.a i.r f.j f.w))))) (some (.out c))
def me (e:ah) (d:LK) (c:Bool):=(fg e).bind fun b=>(loop (fun s:Int×LR=>nI d c b s.1 s.2) (0,b.s)).bind fun r=>qK b r
theorem rW (A:ah) (c:LK) (e:Bool) (v1 v2 M:Value) (b6:aF ac T L v1 A.i) (b7:aF aa T L v2 A.s) (b8:aF ad T L M c) (y:ah) (B:me A c e=some y):bg aR No 212 [.agg (aU A v1 v2).toArray,M,.bool e] L (fun v w'=>∃ (S:Value) (Ei:bI) (V:Value) (Bb:bI),v = .agg (aU y S V).toArray/\gG ac T L w' [be S Ei,aJ V Bb] 91 S Ei y.i/\gG aa T L w' [be S Ei,aJ V Bb] 33 V Bb y.s/\(∀ k,S.ownBlock=some k->V.ownBlock≠some k)):=by
 refine en Tryz.func212 Tryz.ntmps212 hT fun a I=>?_;replace I:=((I.fS (aF.dn b6)).fS (aF.dn b7)).fS (aF.dn b8);unfold me at B;refine kB I fun o c9 a w O I=>?_;refine ka I mw fun p ca a w O I=>?_;refine am I fun a I=>?_;obtain⟨b,X,B⟩:=bd B;refine kc I Bq (eA _ _ I.dlt A _ _ I.g2 I.g1 _ X) fun _ w C a O U=>?_;obtain⟨m,f,n,bt,he,P,Q,b4⟩:=C;obtain rfl:=he.symm;have I:=Ar U P Q b4;refine go I fun a w I=>?_;refine aM (J:=fun a w=>∃ (D:LR) (z:LV),St L No T 40 [(3,pt o 0),(6,pt p 0)] [be m f,aJ n z,.box o (aU b m n) 25,.box p [aj 0,.slice none 0 0,.slice none 0 0] 25] [ap ac f b.i,ap aa z D] a w/\qK b D=some y) ?_ ?_
 ·refine am I fun a I=>?_;obtain⟨r1,b5,hMo1⟩:=bd B;refine bF _ (fun s a w=>∃ (q:Int) (x:LR) (F:LV),(q,x)=s/\St L No T 40 [(1,M),(2,.bool e),(3,pt o 0),(6,pt p 0),(12,aj (b.s.length:Int)),(13,aj q)] [be m f,aJ n F,.box o (aU b m n) 25,.box p [aj 0,.slice none 0 0,.slice none 0 0] 25] [aL ad M c,ap ac f b.i,ap aa F x] a w) b5 ⟨_,_,_,rfl,I.mt [0,1,3,2] [2,1,0]⟩ ?_;rintro s a w f1 ⟨q,x,F,rfl,I⟩ B hf1;have B:nI c e b q x=some f1:=B;unfold nI at B;refine am I fun a I=>?_;refine aC ?_;rcases cd B with⟨a2,B⟩|⟨a2,B⟩
  ·refine am I fun a I=>?_;refine aM (J:=fun a w=>∃ (E:LR) (G:LV),St L No T 40 [(1,M),(2,.bool e),(3,pt o 0),(6,pt p 0),(12,aj (b.s.length:Int)),(13,aj q)] [be m f,aJ n G,.box o (aU b m n) 25,.box p [aj 0,.slice none 0 0,.slice none 0 0] 25] [aL ad M c,ap ac f b.i,ap aa G E] a w/\li q E=some f1) ?_ ?_
   ·refine am I fun a I=>?_;refine aC ?_;refine am I fun a I=>?_;obtain⟨N,W,B⟩:=bd B;refine wl rfl (dx (R:=aa) I mV j6 rfl rfl 1 rfl 2 rfl W rfl fun bi cb cl c1 a3 a4 a5 a I=>?_);obtain⟨d2,rfl,Z⟩:=a3;replace I:=I.fS Z;refine am I fun a I=>?_;refine qy I (cg (k:=0) I dB 1 rfl a4 a5 rfl id (us:=(aX N.d)) rfl rfl (fun h=>by cases h)) fun a I=>?_;obtain⟨d1,Y,B⟩:=bd B;refine kF I Kg (qX _ _ I.dlt c N.d _ I.g1 _ Y) fun w a I=>?_;rcases cd B with⟨a9,B⟩|⟨a9,B⟩
    ·exact fz
    refine am I fun a I=>?_;rcases cd B with⟨ab,B⟩|⟨ab,B⟩
    ·refine am I fun a I=>?_;obtain⟨g,H,B⟩:=bd B;refine wl rfl (dx (R:=aa) I mV j6 rfl rfl 1 rfl 3 rfl H rfl fun bl ch cv c2 af ag ak a I=>?_);obtain⟨b1,rfl,a0⟩:=af;replace I:=I.fS a0;refine am I fun a I=>?_;refine wl rfl (sO (R:=aa) (k:=7) (cs:=(bh g b1)) (us:=[.bool true]) (x':=(au.mk g.d g.u g.k g.a g.t g.j true)) I rfl rfl rfl OP 1 rfl 4 rfl ag ak H (⟨_,rfl,I.g0⟩) rfl rfl (⟨_,rfl,I.g0⟩) fun c3 w O I=>?_);exact fz
    refine am I fun a I=>?_;obtain⟨l,K,B⟩:=bd B;refine wl rfl (dx (R:=aa) I mV j6 rfl rfl 1 rfl 3 rfl K rfl fun bs ck d0 c4 ao av b0 a I=>?_);obtain⟨b2,rfl,a1⟩:=ao;replace I:=I.fS a1;refine am I fun a I=>?_;refine wl rfl (sO (R:=aa) (k:=5) (cs:=(bh l b2)) (us:=[aj b.r]) (x':=(au.mk l.d l.u l.k l.a b.r l.j l.w)) I rfl rfl rfl EY 1 rfl 4 rfl av b0 K (⟨_,rfl,I.g0⟩) rfl rfl (⟨_,rfl,I.g0⟩) fun c5 w O I=>?_);exact fz
   rintro a w ⟨E,G,I,B⟩;unfold li at B;exact fz
  exact fz
 rintro a w ⟨D,z,I,B⟩;unfold qK at B;refine go I fun a w I=>?_;cases B
 refine aG I rfl (rC 3 I) ?_;exact⟨m,f,n,z,rfl,I.zo ⟨.inr (aO (i:=0) rfl),⟨.inr (aO (i:=1) rfl),trivial⟩⟩ 0 rfl 0 rfl,I.zo ⟨.inr (aO (i:=0) rfl),⟨.inr (aO (i:=1) rfl),trivial⟩⟩ 1 rfl 1 rfl,(I.zp 0 rfl 1 rfl (by decide))⟩
def rb (c:ah) (d:ae):=(qi c d).bind fun b=>some (b.a)
theorem C7 (b:ah) (c:ae) (g h:Value) (e:aF ac T L g b.i) (f:aF aa T L h b.s) (y:Int) (B:rb b c=some y):bg aR No 248 [.agg (aU b g h).toArray,.agg (aX c).toArray] L (fun v w'=>v=aj y):=by
 refine en Tryz.func248 Tryz.ntmps248 hT fun a I=>?_;replace I:=(I.fS (aF.dn e)).fS (aF.dn f);unfold rb at B;refine kB I fun j l a w O I=>?_;refine kb I fun k m a w O I=>?_;refine am I fun a I=>?_;obtain⟨n,d,B⟩:=bd B;refine kE I Nq (y8 _ _ I.dlt b c _ _ I.g1 I.g0 _ d) fun w a I=>?_;refine qy I (Cu I rfl Tryz.underlying91 rfl rfl EY rfl rfl (fun _=>rfl)) fun a I=>?_;exact fz
def gQ (j:ah) (i:(au×Bool)) (h:Bool) (b:LU) (c:Int) (d:LI) (e:LR) (f:LB) (g:LL):=cond h (some ((i.1.a,(az.mk b (ah.mk c d e) f g)))) (some ((j.r,(az.mk b (ah.mk c d e) f g))))
def lj (vrec:az->ae->Option (ByteArray×az)) (c:az) (g:ah) (j:ae):=(cu j).bind fun k=>cond k ((rb g j).bind fun m=>some ((m,c))) ((cm g.s j).bind fun f=>cond f.2 (cond (f.1.t==g.r) (gQ g f true c.l c.b.r c.b.i c.b.s c.e c.h) ((vrec c j).bind fun d=>gQ g f (d.1.toList==f.1.u.toList) d.2.l d.2.b.r d.2.b.i d.2.b.s d.2.e d.2.h)) (gQ g f false c.l c.b.r c.b.i c.b.s c.e c.h))
theorem vQ (vrec:az->ae->Option (ByteArray×az)) (hvrec:ov vrec) (g:az) (q:ah) (V:ae) (a9 ab:Value) (m:Nat) (z A D:Value) (d:Nat) (n:Array MapEntry) (p f:Nat) (o:Array MapEntry) (j:Nat) (hD:xH T L [xS m z g.b.r A D d f,om d n p,om f o j]) (c9:aF an (dT T [xS m z g.b.r A D d f,om d n p,om f o j]) L z g.l) (ca:aF ac (dT T [xS m z g.b.r A D d f,om d n p,om f o j]) L A g.b.i) (cb:aF aa (dT T [xS m z g.b.r A D d f,om d n p,om f o j]) L D g.b.s) (c4:bE ad true a6.str false (dT T [xS m z g.b.r A D d f,om d n p,om f o j]) L n g.e) (c5:bE ad true (a6.slice ad) false (dT T [xS m z g.b.r A D d f,om d n p,om f o j]) L o g.h) (c2:aF ac (dT T [xS m z g.b.r A D d f,om d n p,om f o j]) L a9 q.i) (c3:aF aa (dT T [xS m z g.b.r A D d f,om d n p,om f o j]) L ab q.s) (hLv:dh (dT T [xS m z g.b.r A D d f,om d n p,om f o j]) L) (y:Int×az) (B:lj vrec g q V=some y):bg aR (MD [xS m z g.b.r A D d f,om d n p,om f o j]) 214 [pt m 0,.agg (aU q a9 ab).toArray,.agg (aX V).toArray] L (fun v w'=>∃ (Q R S:Value) (t:Array MapEntry) (E:Nat) (x:Array MapEntry) (F:Nat),v=aj y.1/\mx L w' [xS m z g.b.r A D d f,om d n p,om f o j] [xS m Q y.2.b.r R S d f,om d t E,om f x F]/\aF an (dT T [xS m Q y.2.b.r R S d f,om d t E,om f x F]) w' Q y.2.l/\aF ac (dT T [xS m Q y.2.b.r R S d f,om d t E,om f x F]) w' R y.2.b.i/\aF aa (dT T [xS m Q y.2.b.r R S d f,om d t E,om f x F]) w' S y.2.b.s/\bE ad true a6.str false (dT T [xS m Q y.2.b.r R S d f,om d t E,om f x F]) w' t y.2.e/\bE ad true (a6.slice ad) false (dT T [xS m Q y.2.b.r R S d f,om d t E,om f x F]) w' x y.2.h):=by
 refine fT (c:=_) Tryz.func214 rfl T 41 Tryz.ntmps214 hT rfl hD fun a I=>?_;replace I:=(((((((I.fact bH hLv).fS c2).fS c3).fS c9).fS ca).fS cb).fM c4).fM c5;unfold lj at B;refine kB I fun af d0 a w O I=>?_;refine kb I fun ch d6 a w O I=>?_;refine am I fun a I=>?_;refine aC ?_;refine am I fun a I=>?_;obtain⟨d9,b9,B⟩:=bd B;refine kF I yx (da _ _ I.dlt V _ b9) fun w a I=>?_;rcases cd B with⟨bl,B⟩|⟨bl,B⟩
 ·refine am I fun a I=>?_;obtain⟨dc,bb,B⟩:=bd B;refine kF I Qy (C7 _ _ I.dlt q V _ _ I.g6 I.g5 _ bb) fun w a I=>?_;cases B
  refine aG I rfl (aw I rfl aI) ?_;have hZ:=I.sl [2,3,4] [4,3,2,1,0];exact⟨z,A,D,n,p,o,j,rfl,hZ.zd,hZ.g0,hZ.g1,hZ.g2,hZ.g3,hZ.g4⟩
 refine am I fun a I=>?_;obtain⟨K,b7,B⟩:=bd B;refine kc I rM (bR _ _ I.dlt q.s V _ I.g5 _ b7) fun _ w C a O U=>?_;obtain⟨b6,ak,he,b0⟩:=C;obtain rfl:=he.symm;have I:=qs U b0;refine kA I eJ fun ag d7 a w O I=>?_;refine go I fun a w I=>?_;refine aC ?_;refine aM (J:=fun a w=>∃ (Y:Bool) (a0:LU) (a1:Int) (a2:LI) (a3:LR) (a4:LB) (a5:LL) (G:AM) (W:Nat) (H:AM) (X:Nat) (M N P:Value),St L (MD [xS m z g.b.r A D d f,om d n p,om f o j]) T 41 [(4,pt af 0),(7,pt ag 0),(36,.bool Y)] [.box af (aU q a9 ab) 25,aA b6 ak,.box ag (bh K.1 b6) 33,om d G W,om f H X,xS m M a1 N P d f] [aL ac a9 q.i,aL aa ab q.s,ap ad ak K.1.k,aL an M a0,aL ac N a2,aL aa P a3,pg G a4,sW H a5,bH] a w/\gQ q K Y a0 a1 a2 a3 a4 a5=some y) ?_ ?_
 ·refine dr [(10,.bks [some m,some d,some f])] I fun w hQ I=>?_;refine gE [0,1] I fun a I=>?_;rcases cd B with⟨bs,B⟩|⟨bs,B⟩
  ·refine gE [2,3,4,5,6,7] I fun a I=>?_;rcases cd B with⟨Z,B⟩|⟨Z,B⟩
   ·refine gE [8,9,10,11,12,13,14,15] I fun a I=>?_;refine eD ?_;exact fin
   refine gE [8,9,11] I fun a I=>?_;refine dg 12 I Z (l:=[.bks [some m,some d,some f]]) (v:=a8 K.1.u) (dm I rfl MV 0 rfl (xN I 0 rfl rfl [4,5,6] rfl rfl bO) (us:=[a8 K.1.u]) rfl rfl (fun _=>rfl)) fun a I=>?_;obtain⟨dk,bi,B⟩:=bd B;replace I:=I.re [4,5,6] [0,1,2,3];refine cR (i:=10) rfl (by kernel_rfl) I rfl rfl rfl Z (ci I Dp rfl rfl (hvrec _ _ I.zt g V _ _ _ _ _ _ _ _ _ _ I.dok I.d5 I.d4 I.d3 I.d2 I.d1 I.d8 _ bi) fun _ w C a O U=>⟨jf rfl O (Dt rfl rfl),?_⟩);obtain⟨dl,dn,ds,cs,ck,cv,cl,he,bt,b2,b3,b4,ao,av⟩:=C;obtain rfl:=he.symm;have I:=U _ bt;replace I:=((((I.fS (b2.sub (ay _))).fS (b3.sub (ay _))).fS (b4.sub (ay _))).fM (ao.keep (al _ _) (ay _))).fM (av.keep (al _ _) (ay _));refine gE [13,14,15] I fun a I=>?_;refine eD ?_;exact fin
  refine gE [2,3,4,5,6,7,8,9,10,11,12,13,14,15] I fun a I=>?_;refine eD ?_;exact fin
 rintro a w ⟨Y,a0,a1,a2,a3,a4,a5,G,W,H,X,M,N,P,I,B⟩;unfold gQ at B;rcases cd B with⟨c1,B⟩|⟨c1,B⟩
 ·refine am I fun a I=>?_;cases B
  refine aG I rfl (aw I rfl aI) ?_;have hZ:=I.sl [5,3,4] [3,4,5,6,7];exact⟨M,N,P,G,W,H,X,rfl,hZ.zd,hZ.g0,hZ.g1,hZ.g2,hZ.g3,hZ.g4⟩
 refine am I fun a I=>?_;cases B
 refine aG I rfl (aw I rfl aI) ?_;have hZ:=I.sl [5,3,4] [3,4,5,6,7];exact⟨M,N,P,G,W,H,X,rfl,hZ.zd,hZ.g0,hZ.g1,hZ.g2,hZ.g3,hZ.g4⟩
def vt (vrec:az->ae->Option (ByteArray×az)) (g:az) (d:ah) (f:ae):=(lj vrec g d f).bind fun c=>some ((c.1,(az.mk c.2.l (ah.mk c.2.b.r c.2.b.i c.2.b.s) c.2.e c.2.h)))
theorem ES (vrec:az->ae->Option (ByteArray×az)) (hvrec:ov vrec) (g:az) (G:ah) (P:ae) (R S:Value) (n:Nat) (x z A:Value) (d:Nat) (k:Array MapEntry) (o f:Nat) (m:Array MapEntry) (j:Nat) (hD:xH T L [xS n x g.b.r z A d f,om d k o,om f m j]) (ab:aF an (dT T [xS n x g.b.r z A d f,om d k o,om f m j]) L x g.l) (af:aF ac (dT T [xS n x g.b.r z A d f,om d k o,om f m j]) L z g.b.i) (ag:aF aa (dT T [xS n x g.b.r z A d f,om d k o,om f m j]) L A g.b.s) (a5:bE ad true a6.str false (dT T [xS n x g.b.r z A d f,om d k o,om f m j]) L k g.e) (a9:bE ad true (a6.slice ad) false (dT T [xS n x g.b.r z A d f,om d k o,om f m j]) L m g.h) (a0:aF ac (dT T [xS n x g.b.r z A d f,om d k o,om f m j]) L R G.i) (a1:aF aa (dT T [xS n x g.b.r z A d f,om d k o,om f m j]) L S G.s) (hLv:dh (dT T [xS n x g.b.r z A d f,om d k o,om f m j]) L) (y:Int×az) (B:vt vrec g G P=some y):bg aR (MD [xS n x g.b.r z A d f,om d k o,om f m j]) 224 [pt n 0,.agg (aU G R S).toArray,.agg (aX P).toArray] L (fun v w'=>∃ (D E F:Value) (p:Array MapEntry) (t:Nat) (q:Array MapEntry) (u:Nat),v=aj y.1/\mx L w' [xS n x g.b.r z A d f,om d k o,om f m j] [xS n D y.2.b.r E F d f,om d p t,om f q u]/\aF an (dT T [xS n D y.2.b.r E F d f,om d p t,om f q u]) w' D y.2.l/\aF ac (dT T [xS n D y.2.b.r E F d f,om d p t,om f q u]) w' E y.2.b.i/\aF aa (dT T [xS n D y.2.b.r E F d f,om d p t,om f q u]) w' F y.2.b.s/\bE ad true a6.str false (dT T [xS n D y.2.b.r E F d f,om d p t,om f q u]) w' p y.2.e/\bE ad true (a6.slice ad) false (dT T [xS n D y.2.b.r E F d f,om d p t,om f q u]) w' q y.2.h):=by
 refine fT (c:=_) Tryz.func224 rfl T 11 Tryz.ntmps224 hT rfl hD fun a I=>?_;replace I:=(((((((I.fact bH hLv).fS a0).fS a1).fS ab).fS af).fS ag).fM a5).fM a9;unfold vt at B;refine kB I fun ak av a w O I=>?_;refine kb I fun ao b0 a w O I=>?_;refine am I fun a I=>?_;obtain⟨b2,Q,B⟩:=bd B;replace I:=I.re [2,3,4] [0,1];refine wl rfl (ci I NE rfl rfl (vQ _ _ I.zt vrec hvrec g G P _ _ _ _ _ _ _ _ _ _ _ _ I.dok I.d4 I.d3 I.d2 I.d1 I.d0 I.d6 I.d5 I.d7 _ Q) fun _ w C a O U=>?_);obtain⟨a2,a3,a4,X,V,Y,W,he,Z,K,M,N,H,J⟩:=C;obtain rfl:=he.symm;have I:=U _ Z;replace I:=((((I.fS (K.sub (ay _))).fS (M.sub (ay _))).fS (N.sub (ay _))).fM (H.keep (al _ _) (ay _))).fM (J.keep (al _ _) (ay _));refine am I fun a I=>?_;cases B
 refine aG I rfl (aw I rfl aI) ?_;have hZ:=I.sl [0,1,2] [4,3,2,1,0];exact⟨a2,a3,a4,X,V,Y,W,rfl,hZ.zd,hZ.g0,hZ.g1,hZ.g2,hZ.g3,hZ.g4⟩
def rF (f:az) (b:ah) (d:LF) (e:LR) (c:LK):Option (ah×LF×LK×Bool×Int×az):=some (((ah.mk b.r b.i e),d,c,true,0,f))
def iJ (e:az) (b:ah) (l:LF) (c:bp) (g:LF) (h:ByteArray) (f:Bool):=cond f (some ((b,l,([]:List ae),false,45,e))) ((qk b c.d h c.k).bind fun j=>(mO b.s j).bind fun i=>rF e b g i ([c.d]))
def ob (vrec:az->ae->Option (ByteArray×az)) (p:az) (u:LF) (f:ah) (g:LF) (c:bp) (v:LF) (y z:Bool) (x:ByteArray) (n:Int) (o:ByteArray):=cond z (cond (!(y)) (iJ p f g c v x (decide ((4000:Int)<=(f.s.length:Int)))) (iJ p f g c v x false)) ((ql f g u (ae.mk n o)).bind fun t=>cond (t==1) (gd (bP (g.length+([(bp.mk (ae.mk n o) false 0 ([]) ([]))]).length)) <| some ((f,(g++([(bp.mk (ae.mk n o) false 0 ([]) ([]))])),([]:List ae),true,0,p))) (cond (t==2) (some ((f,g,([]:List ae),false,0,p))) (cond (t==3) (some ((f,g,([]:List ae),false,43,p))) (gd (bP (c.k.length+([(ae.mk n o)]).length)) <| (mP vrec p f (ae.mk n o)).bind fun j=>gd (bP (c.q.length+([j.1]).length)) <| some ((f,(g.set (Int.toNat (IntKind.i64.wrap ((g.length:Int)-1))) (bp.mk c.d c.m c.r1 (c.k++([(ae.mk n o)])) (c.q++([j.1])))),([]:List ae),true,0,(az.mk j.2.l (ah.mk j.2.b.r j.2.b.i j.2.b.s) j.2.e j.2.h)))))))
def iK (g:LF) (f:bp) (c:(Int×az)) (j:Int) (m:LI) (n:LR):Option (ah×LF×LK×Bool×Int×az):=some (((ah.mk j m n),(g.set (Int.toNat (IntKind.i64.wrap ((g.length:Int)-1))) (bp.mk f.d true 0 f.k f.q)),([]:List ae),true,0,(az.mk c.2.l (ah.mk c.2.b.r c.2.b.i c.2.b.s) c.2.e c.2.h)))
def eR (vrec:az->ae->Option (ByteArray×az)) (o:az) (x:LF) (f:ah) (g:LF) (c:bp) (D:LF) (y:LK) (z:(List de)) (A:Bool):=cond A (some ((f,(g.set (Int.toNat (IntKind.i64.wrap ((g.length:Int)-1))) (bp.mk c.d true 0 c.k c.q)),([]:List ae),true,0,o))) (cond (decide ((z.length:Int)<=c.r1)) ((me f y false).bind fun E=>some ((E,D,([]:List ae),true,0,o))) ((bu z c.r1).bind fun n=>(ql f g x n.p).bind fun u=>cond (u==1) (gd (bP (g.length+([(bp.mk n.p false 0 ([]) ([]))]).length)) <| some ((f,(g++([(bp.mk n.p false 0 ([]) ([]))])),([]:List ae),true,0,o))) (cond (u==2) (some ((f,g,([]:List ae),false,0,o))) (cond (u==3) (some ((f,g,([]:List ae),false,43,o))) ((cm f.s n.i1).bind fun F=>(vt vrec o f n.p).bind fun j=>cond (decide (j.1<=F.1.t)) (some ((f,(g.set (Int.toNat (IntKind.i64.wrap ((g.length:Int)-1))) (bp.mk c.d c.m (IntKind.i64.wrap (c.r1+1)) c.k c.q)),([]:List ae),true,0,(az.mk j.2.l (ah.mk j.2.b.r j.2.b.i j.2.b.s) j.2.e j.2.h)))) ((cO c.d).bind fun G=>cond G ((me f y true).bind fun v=>iK g c j v.r v.i v.s) (iK g c j f.r f.i f.s)))))))
def iL (vrec:az->ae->Option (ByteArray×az)) (f:az) (b:LF) (d:ah) (i:LF) (e:bp) (c:LF) (k l:Bool) (g:LK) (h:(List de)) (j:Bool):=cond j (some ((d,c,([]:List ae),true,0,f))) (cond (!(k)) (eR vrec f b d i e c g h true) (eR vrec f b d i e c g h l))
def od (vrec:az->ae->Option (ByteArray×az)) (k:az) (e:LF) (c:ah) (j:LF) (b:bp) (h:LF) (f:Bool) (t:Int) (y z:ByteArray) (A:LK) (D p E:Int) (n:Bool):=cond b.m ((ej k.l b.d b.q).bind fun g=>ob vrec k e c j b h f g.c1 g.u g.x1.v g.x1.x) ((nG c.s c.r b.d).bind fun i=>(i7 c.s i).bind fun o=>cond f (iL vrec k e c j b h f n i o (p==c.r)) (iL vrec k e c j b h f n i o false))
def mS (vrec:az->ae->Option (ByteArray×az)) (m:az) (i:ah) (l e:LF):=(fg i).bind fun g=>(eo l).bind fun c=>(bu c (IntKind.i64.wrap ((c.length:Int)-1))).bind fun f=>(pU c 0 (IntKind.i64.wrap ((c.length:Int)-1))).bind fun h=>(cm g.s f.d).bind fun b=>od vrec m e g c f h b.2 b.1.d.v b.1.d.x b.1.u b.1.k b.1.a b.1.t b.1.j b.1.w
theorem B0 (vrec:az->ae->Option (ByteArray×az)) (hvrec:ov vrec) (g:az) (ed:ah) (hY Y:LF) (i0 i2:Value) (i3 b9:Value) (X:Nat) (Z v3 v4:Value) (u:Nat) (E:Array MapEntry) (M z:Nat) (F:Array MapEntry) (D:Nat) (hD:xH T L [xS X Z g.b.r v3 v4 u z,om u E M,om z F D]) (qv:aF an (dT T [xS X Z g.b.r v3 v4 u z,om u E M,om z F D]) L Z g.l) (r0:aF ac (dT T [xS X Z g.b.r v3 v4 u z,om u E M,om z F D]) L v3 g.b.i) (r2:aF aa (dT T [xS X Z g.b.r v3 v4 u z,om u E M,om z F D]) L v4 g.b.s) (qe:bE ad true a6.str false (dT T [xS X Z g.b.r v3 v4 u z,om u E M,om z F D]) L E g.e) (qr:bE ad true (a6.slice ad) false (dT T [xS X Z g.b.r v3 v4 u z,om u E M,om z F D]) L F g.h) (p5:aF ac (dT T [xS X Z g.b.r v3 v4 u z,om u E M,om z F D]) L i0 ed.i) (p6:aF aa (dT T [xS X Z g.b.r v3 v4 u z,om u E M,om z F D]) L i2 ed.s) (p7:aF aB (dT T [xS X Z g.b.r v3 v4 u z,om u E M,om z F D]) L i3 hY) (pe:aF aB (dT T [xS X Z g.b.r v3 v4 u z,om u E M,om z F D]) L b9 Y) (hLv:dh (dT T [xS X Z g.b.r v3 v4 u z,om u E M,om z F D]) L) (y:ah×LF×LK×Bool×Int×az) (B:mS vrec g ed hY Y=some y):bg aR (MD [xS X Z g.b.r v3 v4 u z,om u E M,om z F D]) 186 [pt X 0,.agg (aU ed i0 i2).toArray,i3,b9] L (fun v w'=>∃ (i4 i5:Value) (i9 b3:Value) (ab:bI) (b4 b6 b7:Value) (af:Array MapEntry) (av:Nat) (ag:Array MapEntry) (b0:Nat),v = .tuple #[.agg (aU y.1 i4 i5).toArray,i9,b3,.bool y.2.2.2.1,aj y.2.2.2.2.1]/\aF ac (dT T [xS X b4 y.2.2.2.2.2.b.r b6 b7 u z,om u af av,om z ag b0,aA b3 ab]) w' i4 y.1.i/\aF aa (dT T [xS X b4 y.2.2.2.2.2.b.r b6 b7 u z,om u af av,om z ag b0,aA b3 ab]) w' i5 y.1.s/\aF aB (dT T [xS X b4 y.2.2.2.2.2.b.r b6 b7 u z,om u af av,om z ag b0,aA b3 ab]) w' i9 y.2.1/\bk ad (dT T [xS X b4 y.2.2.2.2.2.b.r b6 b7 u z,om u af av,om z ag b0,aA b3 ab]) w' ab y.2.2.1/\mx L w' [xS X Z g.b.r v3 v4 u z,om u E M,om z F D] [xS X b4 y.2.2.2.2.2.b.r b6 b7 u z,om u af av,om z ag b0,aA b3 ab]/\aF an (dT T [xS X b4 y.2.2.2.2.2.b.r b6 b7 u z,om u af av,om z ag b0,aA b3 ab]) w' b4 y.2.2.2.2.2.l/\aF ac (dT T [xS X b4 y.2.2.2.2.2.b.r b6 b7 u z,om u af av,om z ag b0,aA b3 ab]) w' b6 y.2.2.2.2.2.b.i/\aF aa (dT T [xS X b4 y.2.2.2.2.2.b.r b6 b7 u z,om u af av,om z ag b0,aA b3 ab]) w' b7 y.2.2.2.2.2.b.s/\bE ad true a6.str false (dT T [xS X b4 y.2.2.2.2.2.b.r b6 b7 u z,om u af av,om z ag b0,aA b3 ab]) w' af y.2.2.2.2.2.e/\bE ad true (a6.slice ad) false (dT T [xS X b4 y.2.2.2.2.2.b.r b6 b7 u z,om u af av,om z ag b0,aA b3 ab]) w' ag y.2.2.2.2.2.h):=by
 refine fT (c:=_) Tryz.func186 rfl T 271 Tryz.ntmps186 hT rfl hD fun a I=>?_;replace I:=(((((((((I.fact bH hLv).fS p5).fS p6).fS p7).fS pe).fS qv).fS r0).fS r2).fM qe).fM qr;unfold mS at B;refine kB I fun a5 t0 a w O I=>?_;refine ka I mw fun a2 t1 a w O I=>?_;refine am I fun a I=>?_;obtain⟨o,hC,B⟩:=bd B;refine kc I Bq (eA _ _ I.dlt ed _ _ I.g8 I.g7 _ hC) fun _ w C a O U=>?_;obtain⟨G,ak,P,ao,he,h8,h9,eg⟩:=C;obtain rfl:=he.symm;have I:=Ar U h8 h9 eg;refine am I fun a I=>?_;obtain⟨S,hX,B⟩:=bd B;obtain⟨f,n,B⟩:=bd B;replace I:=I.re [] [0,1,2,3,4,5,6];refine wl rfl (ci I Nx rfl rfl (CW _ _ I.zt I.dok _ _ I.d8 S hX f n) fun H w C a O U=>?_);obtain⟨rn,K,a9,Q,a4,kk,ha,hb,ks⟩:=C;have I:=U _ ks;replace I:=((I.fR (kk.keep (al _ _) (ay _))).fR (ha.keep (al _ _) (ay _))).fR (hb.keep (al _ _) (ay _));refine go I fun a w I=>?_;refine qy I (LM (R:=aB) I wE rfl 0 rfl 2 rfl) fun a I=>?_;refine am I fun a I=>?_;refine wl rfl (KB (R:=aB) I wE wF rfl rfl 0 rfl 2 rfl n rfl fun bt c2 t6 A t2 a I=>?_);refine am I fun a I=>?_;refine qy I (LM (R:=aB) I wE rfl 0 rfl 2 rfl) fun a I=>?_;refine am I fun a I=>?_;obtain⟨c1,hB,B⟩:=bd B;obtain⟨b2,fd,kt⟩:=Mp (R:=aB) I wE wF 0 rfl 2 rfl hB;refine wl rfl (ky (v:=b2) I (kt (k1:=.i64) rfl (.inr ⟨rfl,rfl⟩) (.inl ⟨_,rfl,rfl⟩)) rfl rfl fun a I=>?_);refine am I fun a I=>?_;refine aM (J:=fun a w=>∃ (bb:Bool) (d5:Int) (d6 d7:ByteArray) (dc:LK) (dk dl dn:Int) (ch:Bool) (c4:Nat) (er:LV) (ck:Value) (c9:LV),St L (MD [xS X Z g.b.r v3 v4 u z,om u E M,om z F D]) T 271 [(0,pt X 0),(2,H),(3,b9),(5,pt a5 0),(8,pt a2 0),(13,pt bt c2),(14,b2),(15,pt c4 0),(16,.bool bb)] [dP H er,aA K a9,.own Q 9 a6.str.size a4,om u E M,om z F D,xS X Z g.b.r v3 v4 u z,be G ak,aJ P ao,.box a5 (aU o G P) 25,.box a2 [aj 0,.slice none 0 0,.slice none 0 0] 25,aA ck c9,.box c4 [aj d5,a8 d6,a8 d7,ck,aj dk,aj dl,aj dn,.bool ch] 33] [ap ad a9 f.k,ap a6.str a4 f.q,ap (HR aB) er (ft S (IntKind.i64.wrap ((S.length:Int)-1)) (m7 f K Q)),aL aB b9 Y,aL an Z g.l,aL ac v3 g.b.i,aL aa v4 g.b.s,pg E g.e,sW F g.h,ap ac ak o.i,ap aa ao o.s,ap ad c9 dc,bH] a w/\od vrec g Y o S f c1 bb d5 d6 d7 dc dk dl dn ch=some y) ?_ ?_
 ·obtain⟨N167,hy⟩:∃ N,N=w.heap.size:=⟨_,rfl⟩;replace I:=I.fact (IS N167) (pP hy);refine dr [(11,.new N167)] I fun w hQ I=>?_;refine gE [0,1,2,3,4] I fun a I=>?_;have l0:=ee (R:=aB) I 3 rfl A n;refine dq 5 I (l:=[]) (v:=.agg (aX f.d).toArray) (cg (k:=0) I dB 0 rfl A l0 rfl bO (us:=(aX f.d)) rfl rfl (fun h=>by cases h)) fun a I=>?_;have hL:=I;replace hL:=hL.zf (R:=aa) 4 rfl 4 rfl;obtain⟨ts,fn,B⟩:=bd B;refine dQ (i:=6) (j:=10) rfl rfl (by kernel_rfl) rfl rfl ?_ ?_
  ·skip;have hL:=I;replace hL:=hL.zf (R:=aa) 4 rfl 4 rfl;refine id (bB I rM rfl rfl (bR _ _ hL.dlt o.s f.d _ hL.g0 _ fn) fun _ w C a O U=>⟨fq (O),?_⟩);obtain⟨pk,j3,he,⟨gH,fs,hc⟩⟩:=C;obtain rfl:=he.symm;have I:=U [aA pk j3] (gc ⟨gH,by decide⟩ fs) (wX _);replace I:=I.fR hc;refine gE [7,8,9] I fun a I=>?_;have l1:=(I.g1:N167<=w.heap.size);refine e1 10 (df I eJ rfl fun ib l2 a w O I=>⟨fq (O),?_⟩);refine dw 11 (.blk (some ib)) _ (by kernel_rfl) (pT (cC l1 l2)) ?_;refine es 11 I fun w I=>?_;refine gE [12] I fun a I=>?_;refine eD ?_;exact fin
  skip;have la:=(I.g0:N167<=w.heap.size);refine id (df I eJ rfl fun ih lb a w O I=>⟨fq (O),?_⟩);refine dw 11 (.blk (some ih)) _ (by kernel_rfl) (pT (cC la lb)) ?_;have hL:=I;replace hL:=hL.zf (R:=aa) 5 rfl 4 rfl;refine ec 6 I rM (bR _ _ hL.dlt o.s f.d _ hL.g0 _ fn) fun _ w C a O U=>?_;obtain⟨pl,jb,he,⟨h0,gb,hd⟩⟩:=C;obtain rfl:=he.symm;have I:=U [aA pl jb] (gc ⟨h0,by decide⟩ gb) (wX _);replace I:=I.fR hd;refine gE [7,8,9] I fun a I=>?_;refine es 11 I fun w I=>?_;refine gE [12] I fun a I=>?_;refine eD ?_;exact fin
 rintro a w ⟨bb,d5,d6,d7,dc,dk,dl,dn,ch,c4,er,ck,c9,I,B⟩;unfold od at B;refine aC ?_;refine am I fun a I=>?_;have le:=ee (R:=aB) I 2 rfl A n;refine qy I (cg (k:=2) I OP 0 rfl A le rfl id (us:=[.bool f.m]) rfl rfl (fun _=>rfl)) fun a I=>?_;refine am I fun a I=>?_;rcases cd B with⟨ll,B⟩|⟨ll,B⟩
 ·refine am I fun a I=>?_;refine aM (J:=fun a w=>∃ (ds:Bool) (c3:ByteArray) (V:Int) (W:ByteArray) (c5:Nat) (et:LV),St L (MD [xS X Z g.b.r v3 v4 u z,om u E M,om z F D]) T 271 [(0,pt X 0),(2,H),(3,b9),(5,pt a5 0),(8,pt a2 0),(13,pt bt c2),(14,b2),(16,.bool bb),(17,pt c5 0)] [dP H et,aA K a9,.own Q 9 a6.str.size a4,om u E M,om z F D,xS X Z g.b.r v3 v4 u z,be G ak,aJ P ao,.box a5 (aU o G P) 25,.box a2 [aj 0,.slice none 0 0,.slice none 0 0] 25,.box c5 [.bool ds,a8 c3,aj V,a8 W] 225] [ap ad a9 f.k,ap a6.str a4 f.q,ap (HR aB) et (ft S (IntKind.i64.wrap ((S.length:Int)-1)) (m7 f K Q)),aL aB b9 Y,aL an Z g.l,aL ac v3 g.b.i,aL aa v4 g.b.s,pg E g.e,sW F g.h,ap ac ak o.i,ap aa ao o.s,bH] a w/\ob vrec g Y o S f c1 bb ds c3 V W=some y) ?_ ?_
  ·obtain⟨N183,hz⟩:∃ N,N=w.heap.size:=⟨_,rfl⟩;replace I:=I.fact (IS N183) (pP hz);refine dr [(14,.new N183)] I fun w hQ I=>?_;refine gE [0,1,2,3,4,5,6] I fun a I=>?_;have ls:=ee (R:=aB) I 3 rfl A n;refine dq 7 I (l:=[]) (v:=.agg (aX f.d).toArray) (cg (k:=0) I dB 0 rfl A ls rfl bO (us:=(aX f.d)) rfl rfl (fun h=>by cases h)) fun a I=>?_;refine gE [8,9,10] I fun a I=>?_;have lt:=ee (R:=aB) I 3 rfl A n;refine dq 11 I (l:=[]) (v:=Q) (cg (k:=5) I HO 0 rfl A lt rfl bO (us:=[Q]) rfl rfl (fun _=>rfl)) fun a I=>?_;have hL:=I;replace hL:=hL.zf (R:=a6.str) 2 rfl 2 rfl;obtain⟨tm,fl,B⟩:=bd B;refine dQ (i:=12) (j:=13) rfl rfl (by kernel_rfl) rfl rfl ?_ ?_
   ·skip;have hL:=I;replace hL:=hL.zf (R:=a6.str) 2 rfl 2 rfl;refine id (bB I wa rfl rfl (eE _ _ hL.dlt hL.g14 g.l f.d f.q _ _ hL.g6 hL.g0 _ fl) fun _ w C a O U=>⟨fq (O),?_⟩);obtain rfl:=C;have I:=eL U;have lv:=(I.g0:N183<=w.heap.size);refine e1 13 (df I nP rfl fun ii m0 a w O I=>⟨fq (O),?_⟩);refine dw 14 (.blk (some ii)) _ (by kernel_rfl) (pT (cC lv m0)) ?_;refine es 14 I fun w I=>?_;refine eD ?_;exact fin
   skip;have m1:=(I.g0:N183<=w.heap.size);refine id (df I nP rfl fun j0 m2 a w O I=>⟨fq (O),?_⟩);refine dw 14 (.blk (some j0)) _ (by kernel_rfl) (pT (cC m1 m2)) ?_;have hL:=I;replace hL:=hL.zf (R:=a6.str) 3 rfl 2 rfl;refine ec 12 I wa (eE _ _ hL.dlt hL.g14 g.l f.d f.q _ _ hL.g6 hL.g0 _ fl) fun _ w C a O U=>?_;obtain rfl:=C;have I:=eL U;refine es 14 I fun w I=>?_;refine eD ?_;exact fin
  rintro a w ⟨ds,c3,V,W,c5,et,I,B⟩;unfold ob at B;refine aC ?_;refine am I fun a I=>?_;rcases cd B with⟨m3,B⟩|⟨m3,B⟩
  ·refine am I fun a I=>?_;refine aC ?_;refine aM (J:=fun a w=>∃ (f6:Bool) (ex:LV),St L (MD [xS X Z g.b.r v3 v4 u z,om u E M,om z F D]) T 271 [(2,H),(5,pt a5 0),(8,pt a2 0),(13,pt bt c2),(14,b2),(17,pt c5 0),(73,.bool f6)] [dP H ex,aA K a9,.own Q 9 a6.str.size a4,be G ak,aJ P ao,.box a5 (aU o G P) 25,.box a2 [aj 0,.slice none 0 0,.slice none 0 0] 25,.box c5 [.bool ds,a8 c3,aj V,a8 W] 225,om u E M,om z F D,xS X Z g.b.r v3 v4 u z] [ap ad a9 f.k,ap a6.str a4 f.q,ap (HR aB) ex (ft S (IntKind.i64.wrap ((S.length:Int)-1)) (m7 f K Q)),ap ac ak o.i,ap aa ao o.s,aL an Z g.l,aL ac v3 g.b.i,aL aa v4 g.b.s,pg E g.e,sW F g.h,bH] a w/\iJ g o S f c1 c3 f6=some y) ?_ ?_
   ·exact fz
   rintro a w ⟨f6,ex,I,B⟩;unfold iJ at B;rcases cd B with⟨md,B⟩|⟨md,B⟩
   ·refine go I fun a w I=>?_;replace I:=(I.zf (R:=ad) 1 rfl 0 rfl).zf (R:=a6.str) 1 rfl 2 rfl;replace I:=((((I.zc (R:=aB) 4 rfl n (⟨_,_,rfl,I.g1,I.g0⟩)).zf (R:=ac) 1 rfl 6 rfl).zf (R:=aa) 1 rfl 8 rfl).zf (R:=aB) 0 rfl 2 rfl).zn ad 30 (by decide);cases B
    refine aG I Tryz.results186 (bC I rfl 2 rfl f9 rfl (fun h=>by cases h) (aw I rfl (aw I rfl (aw I rfl (aw I rfl aI))))) ?_;have hZ:=I.sl [6,4,5,0] [3,2,1,0,12,13,14,15,16];exact⟨G,P,H,(.slice none 0 0),[],Z,v3,v4,E,M,F,D,rfl,hZ.g0,hZ.g1,hZ.g2,hZ.g3,hZ.zd,hZ.g4,hZ.g5,hZ.g6,hZ.g7,hZ.g8⟩
   refine am I fun a I=>?_;refine aC ?_;refine dr [(16,.blk (some a5))] I fun w hQ I=>?_;refine gE [0,1,2,3,4,5] I fun a I=>?_;have ms:=ee (R:=aB) I 2 rfl A n;refine dq 6 I (l:=[]) (v:=.agg (aX f.d).toArray) (cg (k:=0) I dB 0 rfl A ms rfl bO (us:=(aX f.d)) rfl rfl (fun h=>by cases h)) fun a I=>?_;refine gE [7,8,9,10,11] I fun a I=>?_;have mt:=ee (R:=aB) I 2 rfl A n;refine dq 12 I (l:=[]) (v:=K) (cg (k:=4) I HN 0 rfl A mt rfl bO (us:=[K]) rfl rfl (fun _=>rfl)) fun a I=>?_;replace I:=((I.zf (R:=ac) 3 rfl 3 rfl).zf (R:=aa) 3 rfl 5 rfl).zf (R:=ad) 1 rfl 2 rfl;obtain⟨pf,hF,B⟩:=bd B;refine ec 13 I NG (ze _ _ I.dlt o f.d c3 f.k _ _ _ I.g2 I.g1 I.g0 _ hF) fun _ w C a O U=>?_;obtain⟨tt,he,hf⟩:=C;obtain rfl:=he.symm;have I:=U [] (fun r hr=>by cases hr) pY;replace I:=I.fS (hf.sub (eY _));obtain⟨hv,hE,B⟩:=bd B;refine ec 14 I NF (AG _ _ I.dlt I.g14 o.s pf _ _ I.g2 I.g0 _ hE) fun _ w C a O U=>?_;obtain⟨e2,fr,he,hg⟩:=C;obtain rfl:=he.symm;have I:=qs U hg;refine gE [15] I fun a I=>?_;refine es 16 I fun w I=>?_;refine eD ?_;refine am I fun a I=>?_;refine aM (J:=fun a w=>∃ (f5:LK) (eT:LV) (e3:Value) (d2:LV),St L (MD [xS X Z g.b.r v3 v4 u z,om u E M,om z F D]) T 271 [(8,pt a2 0),(9,b2),(10,e3),(11,.bool true),(12,aj 0)] [dP H eT,.own Q 9 a6.str.size a4,aA e3 d2,aJ e2 fr,.box a2 (aU o G e2) 25,om u E M,om z F D,xS X Z g.b.r v3 v4 u z] [aL ad K f.k,ap a6.str a4 f.q,ap (HR aB) eT (ft S (IntKind.i64.wrap ((S.length:Int)-1)) (m7 f K Q)),ap ad d2 f5,aL ac G o.i,ap aa fr hv,aL an Z g.l,aL ac v3 g.b.i,aL aa v4 g.b.s,pg E g.e,sW F g.h,bH] a w/\rF g o c1 hv f5=some y) ?_ ?_
   ·refine dr [(7,.blk (some a2))] I fun w hQ I=>?_;refine gE [0,1,2,3,4] I fun a I=>?_;have mv:=ee (R:=aB) I 7 rfl A n;refine dq 5 I (l:=[.blk (some a2)]) (v:=.agg (aX f.d).toArray) (cg (k:=0) I dB 1 rfl A mv rfl (gA I 1 rfl (yV A) 4 rfl rfl (by decide) bO) (us:=(aX f.d)) rfl rfl (fun h=>by cases h)) fun a I=>?_;refine dQ (i:=6) (j:=7) rfl rfl (by kernel_rfl) rfl rfl ?_ ?_
    ·skip;refine id (bf (ps:=[(0,.tmp 97)]) I iA fH (zl:=[aj 0,a8 cp]) (by kernel_rfl) rfl (us:=[(aX f.d)]) ⟨rfl,trivial⟩ (ws:=(aX f.d)) rfl rfl rfl rfl fun j1 a w O I=>⟨fq (O),?_⟩);refine es 7 I fun w I=>?_;refine gE [8,9,10,11] I fun a I=>?_;refine eD ?_;replace I:=I.lit (R:=ad) (us:=(aX f.d)) (xs:=[f.d]) 0 rfl (by decide) (aP (R:=ad) (x:=f.d) rfl) rfl rfl;exact fin
    skip;refine id (vd I rfl rfl (us:=(aU o G e2)) rfl f9 4 rfl rfl rfl (oc rfl (oc (aF.one (I.g4:aF ac _ _ _ _)) (oc (iS (I.own _ (aO (i:=0) rfl)).1) on))) fun w O I=>⟨jf rfl O gB,?_⟩);refine gE [8] I fun a I=>?_;refine e1 6 (bf (ps:=[(0,.tmp 97)]) I iA fH (zl:=[aj 0,a8 cp]) (by kernel_rfl) rfl (us:=[(aX f.d)]) ⟨rfl,trivial⟩ (ws:=(aX f.d)) rfl rfl rfl rfl fun j1 a w O I=>⟨fq (O),?_⟩);refine gE [9,10,11] I fun a I=>?_;refine eD ?_;replace I:=I.lit (R:=ad) (us:=(aX f.d)) (xs:=[f.d]) 0 rfl (by decide) (aP (R:=ad) (x:=f.d) rfl) rfl rfl;exact fin
   rintro a w ⟨f5,eT,e3,d2,I,B⟩;unfold rF at B;refine am I fun a I=>?_;replace I:=I.zf (R:=a6.str) 1 rfl 1 rfl;replace I:=((I.zc (R:=aB) 3 rfl n (⟨_,_,rfl,I.g1,I.g0⟩)).zf (R:=aa) 2 rfl 7 rfl).zf (R:=aB) 0 rfl 1 rfl;replace I:=I.fS (fd _ _ I.g0);cases B
   refine aG I Tryz.results186 (bC I rfl 1 rfl f9 rfl (fun h=>by cases h) (aw I rfl (aw I rfl (aw I rfl (aw I rfl aI))))) ?_;have hZ:=I.sl [4,2,3,0] [9,2,0,8,11,12,13,14,15];exact⟨G,e2,b2,e3,d2,Z,v3,v4,E,M,F,D,rfl,hZ.g0,hZ.g1,hZ.g2,hZ.g3,hZ.zd,hZ.g4,hZ.g5,hZ.g6,hZ.g7,hZ.g8⟩
  refine am I fun a I=>?_;refine aC ?_;refine am I fun a I=>?_;have hL:=I;replace hL:=hL.zf (R:=ac) 6 rfl 9 rfl;replace hL:=hL.zf (R:=aa) 6 rfl 11 rfl;replace hL:=hL.zf (R:=ad) 1 rfl 2 rfl;replace hL:=hL.zf (R:=a6.str) 1 rfl 4 rfl;replace hL:=hL.zc (R:=aB) 6 rfl n (⟨_,_,rfl,hL.g1,hL.g0⟩);replace hL:=hL.zf (R:=aB) 0 rfl 0 rfl;obtain⟨t9,hG,B⟩:=bd B;refine kF I NJ (zk _ _ hL.dlt o S Y (ae.mk V W) _ _ _ _ hL.g5 hL.g4 hL.g0 hL.g9 _ hG) fun w a I=>?_;rcases cd B with⟨n0,B⟩|⟨n0,B⟩
  ·refine am I fun a I=>?_;refine aC ?_;refine dr [(6,.blk (Value.ownBlock H)),(7,.blk (some a2))] I fun w hQ I=>?_;refine dq 0 I (l:=[.blk (Value.ownBlock H)]) (v:=.agg (aU o G P).toArray) (dm I rfl f9 8 rfl (gA I 8 rfl rfl 0 rfl rfl (by decide) bO) (us:=(aU o G P)) rfl rfl (fun h=>by cases h)) fun a I=>?_;refine gE [1,2,3] I fun a I=>?_;refine dq 4 I (v:=.agg #[aj V,a8 W,.bool false,aj 0,.slice none 0 0,.slice none 0 0]) (bw (ps:=[(0,.tmp 110)]) I K3 uS rfl (us:=[[aj V,a8 W]]) ⟨rfl,trivial⟩ (ws:=[aj V,a8 W,.bool false,aj 0,.slice none 0 0,.slice none 0 0]) rfl) fun a I=>?_;refine e1 5 (bf (ps:=[(0,.tmp 111)]) I yG uS (zl:=[aj 0,a8 cp,.bool false,aj 0,.slice none 0 0,.slice none 0 0]) (by kernel_rfl) rfl (us:=[[aj V,a8 W,.bool false,aj 0,.slice none 0 0,.slice none 0 0]]) ⟨rfl,trivial⟩ (ws:=[aj V,a8 W,.bool false,aj 0,.slice none 0 0,.slice none 0 0]) rfl rfl rfl rfl fun r3 a w O I=>⟨fq (O),?_⟩);replace I:=(I.zf (R:=ad) 2 rfl 0 rfl).zf (R:=a6.str) 2 rfl 2 rfl;replace I:=((I.zc (R:=aB) 4 rfl n (⟨_,_,rfl,I.g1,I.g0⟩)).lit (R:=aB) (us:=[aj V,a8 W,.bool false,aj 0,.slice none 0 0,.slice none 0 0]) (xs:=[(bp.mk (ae.mk V W) false 0 ([]) ([]))]) 0 rfl (by decide) (aP (R:=aB) (x:=(bp.mk (ae.mk V W) false 0 ([]) ([]))) (⟨_,_,rfl,aF.nil_ _ _ _,aF.nil_ _ _ _⟩)) rfl rfl).zf (R:=aB) 0 rfl 0 rfl;obtain⟨n1,B⟩:=aW B;refine e1 6 (bG (R:=aB) (xs:=S) (ys:=[(bp.mk (ae.mk V W) false 0 ([]) ([]))]) I yG (by decide) (by decide) rfl rfl 0 rfl 2 rfl 0 rfl n1 rfl fun pw rr a w O I=>⟨jf rfl O kO,?_⟩);refine es 7 I fun w I=>?_;refine gE [8,9,10,11] I fun a I=>?_;refine eD ?_;refine am I fun a I=>?_;replace I:=(((I.zf (R:=ac) 4 rfl 15 rfl).zf (R:=aa) 4 rfl 17 rfl).zf (R:=aB) 0 rfl 2 rfl).zn ad 30 (by decide);cases B
   refine aG I Tryz.results186 (bC I rfl 5 rfl f9 rfl (fun h=>by cases h) (aw I rfl (aw I rfl (aw I rfl (aw I rfl aI))))) ?_;have hZ:=I.sl [3,1,2,0] [3,2,1,0,14,15,16,17,18];exact⟨G,P,pw,(.slice none 0 0),[],Z,v3,v4,E,M,F,D,rfl,hZ.g0,hZ.g1,hZ.g2,hZ.g3,hZ.zd,hZ.g4,hZ.g5,hZ.g6,hZ.g7,hZ.g8⟩
  refine am I fun a I=>?_;rcases cd B with⟨n2,B⟩|⟨n2,B⟩
  ·refine go I fun a w I=>?_;replace I:=(I.zf (R:=ad) 1 rfl 0 rfl).zf (R:=a6.str) 1 rfl 2 rfl;replace I:=((((I.zc (R:=aB) 4 rfl n (⟨_,_,rfl,I.g1,I.g0⟩)).zf (R:=ac) 4 rfl 12 rfl).zf (R:=aa) 4 rfl 14 rfl).zf (R:=aB) 0 rfl 2 rfl).zn ad 30 (by decide);cases B
   refine aG I Tryz.results186 (bC I rfl 5 rfl f9 rfl (fun h=>by cases h) (aw I rfl (aw I rfl (aw I rfl (aw I rfl aI))))) ?_;have hZ:=I.sl [3,1,2,0] [3,2,1,0,11,12,13,14,15];exact⟨G,P,H,(.slice none 0 0),[],Z,v3,v4,E,M,F,D,rfl,hZ.g0,hZ.g1,hZ.g2,hZ.g3,hZ.zd,hZ.g4,hZ.g5,hZ.g6,hZ.g7,hZ.g8⟩
  refine am I fun a I=>?_;rcases cd B with⟨n3,B⟩|⟨n3,B⟩
  ·refine go I fun a w I=>?_;replace I:=(I.zf (R:=ad) 1 rfl 0 rfl).zf (R:=a6.str) 1 rfl 2 rfl;replace I:=((((I.zc (R:=aB) 4 rfl n (⟨_,_,rfl,I.g1,I.g0⟩)).zf (R:=ac) 4 rfl 12 rfl).zf (R:=aa) 4 rfl 14 rfl).zf (R:=aB) 0 rfl 2 rfl).zn ad 30 (by decide);cases B
   refine aG I Tryz.results186 (bC I rfl 5 rfl f9 rfl (fun h=>by cases h) (aw I rfl (aw I rfl (aw I rfl (aw I rfl aI))))) ?_;have hZ:=I.sl [3,1,2,0] [3,2,1,0,11,12,13,14,15];exact⟨G,P,H,(.slice none 0 0),[],Z,v3,v4,E,M,F,D,rfl,hZ.g0,hZ.g1,hZ.g2,hZ.g3,hZ.zd,hZ.g4,hZ.g5,hZ.g6,hZ.g7,hZ.g8⟩
  refine am I fun a I=>?_;refine aC ?_;refine dr [(9,.blk (Value.ownBlock K)),(18,.bks [some X,some u,some z]),(20,.blk (Value.ownBlock Q)),(23,.blk (Value.ownBlock H)),(26,.blk (Value.ownBlock H))] I fun w hQ I=>?_;refine gE [0,1,2,3,4] I fun a I=>?_;have n4:=ee (R:=aB) I 2 rfl A n;refine dq 5 I (l:=[]) (v:=K) (cg (k:=4) I HN 0 rfl A n4 rfl bO (us:=[K]) rfl rfl (fun _=>rfl)) fun a I=>?_;refine gE [6,7,10,11,12] I fun a I=>?_;have n6:=ee (R:=aB) I 2 rfl A n;refine dq 13 I (l:=[.blk (Value.ownBlock K),.bks [some X,some u,some z]]) (v:=Q) (cg (k:=5) I HO 0 rfl A n6 rfl (gA I 0 rfl (yV A) 1 rfl rfl (by decide) (xN I 0 rfl (yV A) [5,3,4] rfl rfl bO)) (us:=[Q]) rfl rfl (fun _=>rfl)) fun a I=>?_;refine gE [14] I fun a I=>?_;refine dq 15 I (l:=[.blk (Value.ownBlock K)]) (v:=.agg (aU o G P).toArray) (dm I rfl f9 8 rfl (gA I 8 rfl rfl 1 rfl rfl (by decide) bO) (us:=(aU o G P)) rfl rfl (fun h=>by cases h)) fun a I=>?_;refine gE [16] I fun a I=>?_;refine dq 17 I (l:=[.blk (Value.ownBlock K)]) (v:=.agg #[aj V,a8 W]) (dm I rfl dB 10 rfl (gA I 10 rfl rfl 1 rfl rfl (by decide) bO) (us:=[aj V,a8 W]) rfl rfl (fun h=>by cases h)) fun a I=>?_;refine e1 8 (bf (ps:=[(0,.tmp 129)]) I iA fH (zl:=[aj 0,a8 cp]) (by kernel_rfl) rfl (us:=[[aj V,a8 W]]) ⟨rfl,trivial⟩ (ws:=[aj V,a8 W]) rfl rfl rfl rfl fun r4 a w O I=>⟨fq (O),?_⟩);replace I:=(I.lit (R:=ad) (us:=[aj V,a8 W]) (xs:=[(ae.mk V W)]) 0 rfl (by decide) (aP (R:=ad) (x:=(ae.mk V W)) rfl) rfl rfl).zf (R:=ad) 0 rfl 0 rfl;obtain⟨nd,B⟩:=aW B;refine e1 9 (bG (R:=ad) (xs:=f.k) (ys:=[(ae.mk V W)]) I iA (by decide) (by decide) rfl rfl 1 rfl 2 rfl 0 rfl nd rfl fun hx rs a w O I=>⟨jf rfl O kO,?_⟩);replace I:=(I.zf (R:=ac) 6 rfl 12 rfl).zf (R:=aa) 6 rfl 14 rfl;obtain⟨bi,hH,B⟩:=bd B;replace I:=I.re [5,3,4] [0,1,2,6,7,8];refine e1 18 (ci I NH rfl rfl (ww _ _ I.zt vrec hvrec g o (ae.mk V W) _ _ _ _ _ _ _ _ _ _ _ _ I.dok I.d9 I.d10 I.d11 I.d12 I.d13 I.d1 I.d0 I.d16 _ hH) fun _ w C a O U=>⟨jf rfl O (Dt rfl rfl),?_⟩);obtain⟨q0,q1,q2,k3,js,k4,k0,he,ng,hh,hi,hj,h4,h5⟩:=C;obtain rfl:=he.symm;have I:=U _ ng;replace I:=((((I.fS (hh.sub (ay _))).fS (hi.sub (ay _))).fS (hj.sub (ay _))).fM (h4.keep (al _ _) (ay _))).fM (h5.keep (al _ _) (ay _));refine e1 19 (bf (ps:=[(0,.tmp 140)]) I zK O2 (zl:=[a8 cp]) (by kernel_rfl) rfl (us:=[[a8 bi.1]]) ⟨rfl,trivial⟩ (ws:=[a8 bi.1]) rfl rfl rfl rfl fun ra a w O I=>⟨fq (O),?_⟩);replace I:=(I.lit (R:=a6.str) (us:=[a8 bi.1]) (xs:=[bi.1]) 0 rfl (by decide) (aP (R:=a6.str) (x:=bi.1) rfl) rfl rfl).zf (R:=a6.str) 0 rfl 0 rfl;obtain⟨nl,B⟩:=aW B;refine e1 20 (bG (R:=a6.str) (xs:=f.q) (ys:=[bi.1]) I zK (by decide) (by decide) rfl rfl 5 rfl 13 rfl 0 rfl nl rfl fun q3 rt a w O I=>⟨jf rfl O kO,?_⟩);refine gE [21,22] I fun a I=>?_;refine e1 23 (qc (R:=aB) (k:=4) (cs:=(m7 f K Q)) (us:=[hx]) I rfl rfl (m8 (iS (I.own _ (aO (i:=4) rfl)).1)) HN 3 rfl 15 rfl A n rfl rfl (oc (iS (I.own _ (aO (i:=4) rfl)).1) on) fun s0 w O I=>⟨jf rfl O kO,?_⟩);refine gE [24,25] I fun a I=>?_;refine e1 26 (qc (R:=aB) (k:=5) (cs:=(m7 f hx Q)) (us:=[q3]) I rfl rfl (m8 (iS (I.own _ (aO (i:=5) rfl)).1)) HO 3 rfl 0 rfl A n rfl rfl (oc (iS (I.own _ (aO (i:=5) rfl)).1) on) fun s1 w O I=>⟨jf rfl O kO,?_⟩);refine eD ?_;refine go I fun a w I=>?_;replace I:=(I.zf (R:=ad) 4 rfl 12 rfl).zf (R:=a6.str) 4 rfl 3 rfl;replace I:=((I.closeH (R:=aB) (x':=(bp.mk f.d f.m f.r1 (f.k++([(ae.mk V W)])) (f.q++([bi.1])))) 2 rfl (⟨_,_,rfl,I.g1,I.g0⟩)).zf (R:=aB) 3 rfl 0 rfl).zn ad 30 (by decide);cases B
  refine aG I Tryz.results186 (bC I rfl 5 rfl f9 rfl (fun h=>by cases h) (aw I rfl (aw I rfl (aw I rfl (aw I rfl aI))))) ?_;have hZ:=I.sl [1,2,3,0] [16,15,1,0,14,13,12,11,10];exact⟨G,P,H,(.slice none 0 0),[],q0,q1,q2,k3,js,k4,k0,rfl,hZ.g0,hZ.g1,hZ.g2,hZ.g3,hZ.zd,hZ.g4,hZ.g5,hZ.g6,hZ.g7,hZ.g8⟩
 refine am I fun a I=>?_;refine aC ?_;refine dr [] I fun w hQ I=>?_;refine gE [0,1,2,3,4,5,6] I fun a I=>?_;have nm:=ee (R:=aB) I 2 rfl A n;refine dq 7 I (l:=[]) (v:=.agg (aX f.d).toArray) (cg (k:=0) I dB 0 rfl A nm rfl bO (us:=(aX f.d)) rfl rfl (fun h=>by cases h)) fun a I=>?_;have hL:=I;replace hL:=hL.zf (R:=aa) 7 rfl 10 rfl;obtain⟨bs,hJ,B⟩:=bd B;refine ec 8 I H8 (vr _ _ hL.dlt hL.g13 o.s o.r f.d _ hL.g0 _ hJ) fun _ w C a O U=>?_;obtain⟨cl,ca,he,⟨h1,gi,hk⟩⟩:=C;obtain rfl:=he.symm;have I:=U [aA cl ca] (gc ⟨h1,by decide⟩ gi) (wX _);replace I:=I.fR hk;refine gE [9] I fun a I=>?_;refine eD ?_;refine am I fun a I=>?_;have hL:=I;replace hL:=hL.zf (R:=aa) 8 rfl 11 rfl;replace hL:=hL.zf (R:=ad) 0 rfl 1 rfl;obtain⟨e0,hK,B⟩:=bd B;refine kc I H9 (pu _ _ hL.dlt o.s bs _ _ hL.g1 hL.g0 _ hK) fun _ w C a O U=>?_;obtain⟨cv,cb,he,⟨h2,gs,hl⟩⟩:=C;obtain rfl:=he.symm;have I:=U [nV cv cb] (gc ⟨h2,by decide⟩ gs) (wX _);replace I:=I.fR hl;refine am I fun a I=>?_;refine aC ?_;refine am I fun a I=>?_;refine aM (J:=fun a w=>∃ (f8:Bool) (eX:LV),St L (MD [xS X Z g.b.r v3 v4 u z,om u E M,om z F D]) T 271 [(0,pt X 0),(2,H),(3,b9),(5,pt a5 0),(8,pt a2 0),(13,pt bt c2),(14,b2),(15,pt c4 0),(16,.bool bb),(18,cl),(19,cv),(162,.bool f8)] [dP H eX,aA K a9,.own Q 9 a6.str.size a4,aA cl ca,nV cv cb,om u E M,om z F D,xS X Z g.b.r v3 v4 u z,be G ak,aJ P ao,.box a5 (aU o G P) 25,.box a2 [aj 0,.slice none 0 0,.slice none 0 0] 25,aA ck c9,.box c4 [aj d5,a8 d6,a8 d7,ck,aj dk,aj dl,aj dn,.bool ch] 33] [ap ad a9 f.k,ap a6.str a4 f.q,ap (HR aB) eX (ft S (IntKind.i64.wrap ((S.length:Int)-1)) (m7 f K Q)),aL aB b9 Y,ap ad ca bs,ap ga cb e0,aL an Z g.l,aL ac v3 g.b.i,aL aa v4 g.b.s,pg E g.e,sW F g.h,ap ac ak o.i,ap aa ao o.s,ap ad c9 dc,bH] a w/\iL vrec g Y o S f c1 bb ch bs e0 f8=some y) ?_ ?_
 ·exact fz
 rintro a w ⟨f8,eX,I,B⟩;unfold iL at B;rcases cd B with⟨no,B⟩|⟨no,B⟩
 ·refine go I fun a w I=>?_;replace I:=(I.zf (R:=ad) 1 rfl 0 rfl).zf (R:=a6.str) 1 rfl 2 rfl;replace I:=(((I.zc (R:=aB) 4 rfl n (⟨_,_,rfl,I.g1,I.g0⟩)).zf (R:=ac) 6 rfl 14 rfl).zf (R:=aa) 6 rfl 16 rfl).zf (R:=aB) 0 rfl 2 rfl;replace I:=(I.fS (fd _ _ I.g0)).zn ad 30 (by decide);cases B
  refine aG I Tryz.results186 (bC I rfl 7 rfl f9 rfl (fun h=>by cases h) (aw I rfl (aw I rfl (aw I rfl (aw I rfl aI))))) ?_;have hZ:=I.sl [5,3,4,0] [4,3,1,0,14,15,16,17,18];exact⟨G,P,b2,(.slice none 0 0),[],Z,v3,v4,E,M,F,D,rfl,hZ.g0,hZ.g1,hZ.g2,hZ.g3,hZ.zd,hZ.g4,hZ.g5,hZ.g6,hZ.g7,hZ.g8⟩
 refine am I fun a I=>?_;refine aM (J:=fun a w=>∃ (f7:Bool) (f1:LV),St L (MD [xS X Z g.b.r v3 v4 u z,om u E M,om z F D]) T 271 [(0,pt X 0),(2,H),(3,b9),(5,pt a5 0),(8,pt a2 0),(13,pt bt c2),(14,b2),(18,cl),(19,cv),(173,.bool f7)] [dP H f1,aA K a9,.own Q 9 a6.str.size a4,aA cl ca,nV cv cb,om u E M,om z F D,xS X Z g.b.r v3 v4 u z,be G ak,aJ P ao,.box a5 (aU o G P) 25,.box a2 [aj 0,.slice none 0 0,.slice none 0 0] 25] [ap ad a9 f.k,ap a6.str a4 f.q,ap (HR aB) f1 (ft S (IntKind.i64.wrap ((S.length:Int)-1)) (m7 f K Q)),aL aB b9 Y,ap ad ca bs,ap ga cb e0,aL an Z g.l,aL ac v3 g.b.i,aL aa v4 g.b.s,pg E g.e,sW F g.h,ap ac ak o.i,ap aa ao o.s,bH] a w/\eR vrec g Y o S f c1 bs e0 f7=some y) ?_ ?_
 ·exact fz
 rintro a w ⟨f7,f1,I,B⟩;unfold eR at B;rcases cd B with⟨ns,B⟩|⟨ns,B⟩
 ·refine am I fun a I=>?_;refine wl rfl (qc (R:=aB) (k:=2) (cs:=(m7 f K Q)) (us:=[.bool true]) I rfl rfl rfl OP 0 rfl 2 rfl A n rfl rfl (oc rfl on) fun s2 w O I=>?_);refine am I fun a I=>?_;refine wl rfl (qc (R:=aB) (k:=3) (cs:=[aj f.d.v,a8 f.d.x,.bool true,aj f.r1,K,Q]) (us:=[aj 0]) I rfl rfl rfl EY 0 rfl 0 rfl A n rfl rfl (oc rfl on) fun sb w O I=>?_);refine go I fun a w I=>?_;replace I:=(I.zf (R:=ad) 1 rfl 2 rfl).zf (R:=a6.str) 1 rfl 4 rfl;replace I:=((((I.closeH (R:=aB) (x':=(bp.mk f.d true 0 f.k f.q)) 2 rfl (⟨_,_,rfl,I.g1,I.g0⟩)).zf (R:=ac) 6 rfl 16 rfl).zf (R:=aa) 6 rfl 18 rfl).zf (R:=aB) 0 rfl 2 rfl).zn ad 30 (by decide);cases B
  refine aG I Tryz.results186 (bC I rfl 7 rfl f9 rfl (fun h=>by cases h) (aw I rfl (aw I rfl (aw I rfl (aw I rfl aI))))) ?_;have hZ:=I.sl [5,3,4,0] [3,2,1,0,15,16,17,18,19];exact⟨G,P,H,(.slice none 0 0),[],Z,v3,v4,E,M,F,D,rfl,hZ.g0,hZ.g1,hZ.g2,hZ.g3,hZ.zd,hZ.g4,hZ.g5,hZ.g6,hZ.g7,hZ.g8⟩
 refine am I fun a I=>?_;have nv:=ee (R:=aB) I 2 rfl A n;refine qy I (cg (k:=3) I EY 0 rfl A nv rfl id (us:=[aj f.r1]) rfl rfl (fun _=>rfl)) fun a I=>?_;refine am I fun a I=>?_;rcases cd B with⟨o1,B⟩|⟨o1,B⟩
 ·refine am I fun a I=>?_;replace I:=((I.zf (R:=ac) 8 rfl 11 rfl).zf (R:=aa) 8 rfl 13 rfl).zf (R:=ad) 3 rfl 6 rfl;obtain⟨te,hM,B⟩:=bd B;refine kc I Ia (rW _ _ I.dlt o bs false _ _ _ I.g2 I.g1 I.g0 _ hM) fun _ w C a O U=>?_;obtain⟨q4,sc,q5,sk,he,hm,hn,eg⟩:=C;obtain rfl:=he.symm;have I:=Ar U hm hn eg;refine go I fun a w I=>?_;replace I:=(I.zf (R:=ad) 3 rfl 5 rfl).zf (R:=a6.str) 3 rfl 7 rfl;replace I:=(((I.zc (R:=aB) 9 rfl n (⟨_,_,rfl,I.g1,I.g0⟩)).zf (R:=ac) 0 rfl 4 rfl).zf (R:=aa) 0 rfl 4 rfl).zf (R:=aB) 0 rfl 2 rfl;replace I:=(I.fS (fd _ _ I.g0)).zn ad 30 (by decide);cases B
  refine aG I Tryz.results186 (bC I rfl 6 rfl f9 rfl (fun h=>by cases h) (aw I rfl (aw I rfl (aw I rfl (aw I rfl aI))))) ?_;have hZ:=I.sl [4,2,3,0] [4,3,1,0,19,20,21,22,23];exact⟨q4,q5,b2,(.slice none 0 0),[],Z,v3,v4,E,M,F,D,rfl,hZ.g0,hZ.g1,hZ.g2,hZ.g3,hZ.zd,hZ.g4,hZ.g5,hZ.g6,hZ.g7,hZ.g8⟩
 refine am I fun a I=>?_;have o2:=ee (R:=aB) I 2 rfl A n;refine qy I (cg (k:=3) I EY 0 rfl A o2 rfl id (us:=[aj f.r1]) rfl rfl (fun _=>rfl)) fun a I=>?_;obtain⟨a3,hA,B⟩:=bd B;refine wl rfl (dx (R:=ga) I Lp Gt rfl rfl 4 rfl 5 rfl hA rfl fun rd t5 t7 sn o3 of oi a I=>?_);obtain rfl:=o3;refine qy I (cg (k:=0) I Gt 4 rfl of oi rfl id (us:=(G7 a3)) rfl rfl (fun h=>by cases h)) fun a I=>?_;refine ka I IN fun rg t3 a w O I=>?_;refine go I fun a w I=>?_;refine aC ?_;refine am I fun a I=>?_;have hL:=I;replace hL:=hL.zf (R:=ac) 9 rfl 11 rfl;replace hL:=hL.zf (R:=aa) 9 rfl 13 rfl;replace hL:=hL.zf (R:=ad) 2 rfl 2 rfl;replace hL:=hL.zf (R:=a6.str) 2 rfl 4 rfl;replace hL:=hL.zc (R:=aB) 6 rfl n (⟨_,_,rfl,hL.g1,hL.g0⟩);replace hL:=hL.zf (R:=aB) 1 rfl 0 rfl;obtain⟨th,hN,B⟩:=bd B;refine kF I NJ (zk _ _ hL.dlt o S Y a3.p _ _ _ _ hL.g5 hL.g4 hL.g0 hL.g9 _ hN) fun w a I=>?_;rcases cd B with⟨oj,B⟩|⟨oj,B⟩
 ·refine am I fun a I=>?_;refine aC ?_;refine dr [(6,.blk (Value.ownBlock H)),(7,.blk (some a2))] I fun w hQ I=>?_;refine dq 0 I (l:=[.blk (Value.ownBlock H)]) (v:=.agg (aU o G P).toArray) (dm I rfl f9 11 rfl (gA I 11 rfl rfl 1 rfl rfl (by decide) bO) (us:=(aU o G P)) rfl rfl (fun h=>by cases h)) fun a I=>?_;refine gE [1,2,3] I fun a I=>?_;refine dq 4 I (v:=.agg #[aj a3.p.v,a8 a3.p.x,.bool false,aj 0,.slice none 0 0,.slice none 0 0]) (bw (ps:=[(0,.tmp 218)]) I K3 uS rfl (us:=[(aX a3.p)]) ⟨rfl,trivial⟩ (ws:=[aj a3.p.v,a8 a3.p.x,.bool false,aj 0,.slice none 0 0,.slice none 0 0]) rfl) fun a I=>?_;refine e1 5 (bf (ps:=[(0,.tmp 219)]) I yG uS (zl:=[aj 0,a8 cp,.bool false,aj 0,.slice none 0 0,.slice none 0 0]) (by kernel_rfl) rfl (us:=[[aj a3.p.v,a8 a3.p.x,.bool false,aj 0,.slice none 0 0,.slice none 0 0]]) ⟨rfl,trivial⟩ (ws:=[aj a3.p.v,a8 a3.p.x,.bool false,aj 0,.slice none 0 0,.slice none 0 0]) rfl rfl rfl rfl fun rl a w O I=>⟨fq (O),?_⟩);replace I:=(I.zf (R:=ad) 3 rfl 0 rfl).zf (R:=a6.str) 3 rfl 2 rfl;replace I:=((I.zc (R:=aB) 4 rfl n (⟨_,_,rfl,I.g1,I.g0⟩)).lit (R:=aB) (us:=[aj a3.p.v,a8 a3.p.x,.bool false,aj 0,.slice none 0 0,.slice none 0 0]) (xs:=[(bp.mk a3.p false 0 ([]) ([]))]) 0 rfl (by decide) (aP (R:=aB) (x:=(bp.mk a3.p false 0 ([]) ([]))) (⟨_,_,rfl,aF.nil_ _ _ _,aF.nil_ _ _ _⟩)) rfl rfl).zf (R:=aB) 0 rfl 0 rfl;obtain⟨ok,B⟩:=aW B;refine e1 6 (bG (R:=aB) (xs:=S) (ys:=[(bp.mk a3.p false 0 ([]) ([]))]) I yG (by decide) (by decide) rfl rfl 1 rfl 2 rfl 0 rfl ok rfl fun q6 sp a w O I=>⟨jf rfl O kO,?_⟩);refine es 7 I fun w I=>?_;refine gE [8,9,10,11] I fun a I=>?_;refine eD ?_;refine am I fun a I=>?_;replace I:=(((I.zf (R:=ac) 7 rfl 17 rfl).zf (R:=aa) 7 rfl 19 rfl).zf (R:=aB) 1 rfl 2 rfl).zn ad 30 (by decide);cases B
  refine aG I Tryz.results186 (bC I rfl 8 rfl f9 rfl (fun h=>by cases h) (aw I rfl (aw I rfl (aw I rfl (aw I rfl aI))))) ?_;have hZ:=I.sl [6,4,5,0] [3,2,1,0,16,17,18,19,20];exact⟨G,P,q6,(.slice none 0 0),[],Z,v3,v4,E,M,F,D,rfl,hZ.g0,hZ.g1,hZ.g2,hZ.g3,hZ.zd,hZ.g4,hZ.g5,hZ.g6,hZ.g7,hZ.g8⟩
 refine am I fun a I=>?_;rcases cd B with⟨op,B⟩|⟨op,B⟩
 ·refine go I fun a w I=>?_;replace I:=(I.zf (R:=ad) 2 rfl 0 rfl).zf (R:=a6.str) 2 rfl 2 rfl;replace I:=((((I.zc (R:=aB) 4 rfl n (⟨_,_,rfl,I.g1,I.g0⟩)).zf (R:=ac) 7 rfl 14 rfl).zf (R:=aa) 7 rfl 16 rfl).zf (R:=aB) 1 rfl 2 rfl).zn ad 30 (by decide);cases B
  refine aG I Tryz.results186 (bC I rfl 8 rfl f9 rfl (fun h=>by cases h) (aw I rfl (aw I rfl (aw I rfl (aw I rfl aI))))) ?_;have hZ:=I.sl [6,4,5,0] [3,2,1,0,13,14,15,16,17];exact⟨G,P,H,(.slice none 0 0),[],Z,v3,v4,E,M,F,D,rfl,hZ.g0,hZ.g1,hZ.g2,hZ.g3,hZ.zd,hZ.g4,hZ.g5,hZ.g6,hZ.g7,hZ.g8⟩
 refine am I fun a I=>?_;rcases cd B with⟨os,B⟩|⟨os,B⟩
 ·refine go I fun a w I=>?_;replace I:=(I.zf (R:=ad) 2 rfl 0 rfl).zf (R:=a6.str) 2 rfl 2 rfl;replace I:=((((I.zc (R:=aB) 4 rfl n (⟨_,_,rfl,I.g1,I.g0⟩)).zf (R:=ac) 7 rfl 14 rfl).zf (R:=aa) 7 rfl 16 rfl).zf (R:=aB) 1 rfl 2 rfl).zn ad 30 (by decide);cases B
  refine aG I Tryz.results186 (bC I rfl 8 rfl f9 rfl (fun h=>by cases h) (aw I rfl (aw I rfl (aw I rfl (aw I rfl aI))))) ?_;have hZ:=I.sl [6,4,5,0] [3,2,1,0,13,14,15,16,17];exact⟨G,P,H,(.slice none 0 0),[],Z,v3,v4,E,M,F,D,rfl,hZ.g0,hZ.g1,hZ.g2,hZ.g3,hZ.zd,hZ.g4,hZ.g5,hZ.g6,hZ.g7,hZ.g8⟩
 refine am I fun a I=>?_;have hL:=I;replace hL:=hL.zf (R:=aa) 10 rfl 12 rfl;obtain⟨hw,hP,B⟩:=bd B;refine kc I rM (bR _ _ hL.dlt o.s a3.i1 _ hL.g0 _ hP) fun _ w C a O U=>?_;obtain⟨q7,k2,he,⟨h3,gu,ho⟩⟩:=C;obtain rfl:=he.symm;have I:=U [aA q7 k2] (gc ⟨h3,by decide⟩ gu) (wX _);replace I:=I.fR ho;refine kA I eJ fun rm t4 a w O I=>?_;refine go I fun a w I=>?_;refine aC ?_;refine aC ?_;refine dr [(4,.bks [some X,some u,some z])] I fun w hQ I=>?_;refine gE [0,1,2,3,5] I fun a I=>?_;refine dq 6 I (l:=[.bks [some X,some u,some z]]) (v:=aj hw.1.t) (dm I rfl EY 0 rfl (xN I 0 rfl rfl [10,8,9] rfl rfl bO) (us:=[aj hw.1.t]) rfl rfl (fun _=>rfl)) fun a I=>?_;replace I:=(I.zf (R:=ac) 11 rfl 12 rfl).zf (R:=aa) 11 rfl 14 rfl;obtain⟨bl,hI,B⟩:=bd B;replace I:=I.re [10,8,9] [0,1,2,3,4,5,6,7,11,12];refine e1 4 (ci I Qt rfl rfl (ES _ _ I.zt vrec hvrec g o a3.p _ _ _ _ _ _ _ _ _ _ _ _ I.dok I.d9 I.d10 I.d11 I.d12 I.d13 I.d1 I.d0 I.d16 _ hI) fun _ w C a O U=>⟨jf rfl O (Dt rfl rfl),?_⟩);obtain⟨e4,e5,e6,d3,f2,d4,f3,he,p0,hp,hq,hs,h6,h7⟩:=C;obtain rfl:=he.symm;have I:=U _ p0;replace I:=((((I.fS (hp.sub (ay _))).fS (hq.sub (ay _))).fS (hs.sub (ay _))).fM (h6.keep (al _ _) (ay _))).fM (h7.keep (al _ _) (ay _));refine gE [7] I fun a I=>?_;refine eD ?_;refine am I fun a I=>?_;rcases cd B with⟨p1,B⟩|⟨p1,B⟩
 ·refine am I fun a I=>?_;have p2:=ee (R:=aB) I 10 rfl A n;refine qy I (cg (k:=3) I EY 6 rfl A p2 rfl id (us:=[aj f.r1]) rfl rfl (fun _=>rfl)) fun a I=>?_;refine am I fun a I=>?_;refine wl rfl (qc (R:=aB) (k:=3) (cs:=(m7 f K Q)) (us:=[aj (IntKind.i64.wrap (f.r1+1))]) I rfl rfl rfl EY 6 rfl 10 rfl A n rfl rfl (oc rfl on) fun sq w O I=>?_);refine go I fun a w I=>?_;replace I:=(I.zf (R:=ad) 7 rfl 9 rfl).zf (R:=a6.str) 7 rfl 11 rfl;replace I:=((I.closeH (R:=aB) (x':=(bp.mk f.d f.m (IntKind.i64.wrap (f.r1+1)) f.k f.q)) 2 rfl (⟨_,_,rfl,I.g1,I.g0⟩)).zf (R:=aB) 6 rfl 0 rfl).zn ad 30 (by decide);cases B
  refine aG I Tryz.results186 (bC I rfl 10 rfl f9 rfl (fun h=>by cases h) (aw I rfl (aw I rfl (aw I rfl (aw I rfl aI))))) ?_;have hZ:=I.sl [1,2,3,0] [12,11,1,0,10,9,8,7,6];exact⟨G,P,H,(.slice none 0 0),[],e4,e5,e6,d3,f2,d4,f3,rfl,hZ.g0,hZ.g1,hZ.g2,hZ.g3,hZ.zd,hZ.g4,hZ.g5,hZ.g6,hZ.g7,hZ.g8⟩
 refine am I fun a I=>?_;refine aM (J:=fun a w=>∃ (ei:Int) (el:LI) (eq:LR) (f4:LV) (e8 ea:Value),St L (MD [xS X Z g.b.r v3 v4 u z,om u E M,om z F D]) T 271 [(2,H),(5,pt a5 0),(8,pt a2 0),(13,pt bt c2)] [dP H f4,aA K a9,.own Q 9 a6.str.size a4,.box a5 [aj ei,e8,ea] 25,.box a2 [aj 0,.slice none 0 0,.slice none 0 0] 25,om u d3 f2,om z d4 f3,xS X e4 bl.2.b.r e5 e6 u z] [ap ad a9 f.k,ap a6.str a4 f.q,ap (HR aB) f4 (ft S (IntKind.i64.wrap ((S.length:Int)-1)) (m7 f K Q)),aL ac e8 el,aL aa ea eq,aL an e4 bl.2.l,aL ac e5 bl.2.b.i,aL aa e6 bl.2.b.s,pg d3 bl.2.e,sW d4 bl.2.h,bH] a w/\iK S f bl ei el eq=some y) ?_ ?_
 ·refine am I fun a I=>?_;have p3:=ee (R:=aB) I 10 rfl A n;refine qy I (cg (k:=0) I dB 6 rfl A p3 rfl id (us:=(aX f.d)) rfl rfl (fun h=>by cases h)) fun a I=>?_;obtain⟨tk,hV,B⟩:=bd B;refine kF I uf (cY _ _ I.dlt f.d _ hV) fun w a I=>?_;rcases cd B with⟨p4,B⟩|⟨p4,B⟩
  ·refine am I fun a I=>?_;replace I:=I.zf (R:=ad) 9 rfl 12 rfl;obtain⟨tl,hW,B⟩:=bd B;refine kc I Ia (rW _ _ I.dlt o bs true _ _ _ I.g7 I.g6 I.g0 _ hW) fun _ w C a O U=>?_;obtain⟨ty,st,u1,sy,he,ht,hu,eg⟩:=C;obtain rfl:=he.symm;have I:=Ar U ht hu eg;refine go I fun a w I=>?_;replace I:=(I.zf (R:=ac) 0 rfl 1 rfl).zf (R:=aa) 0 rfl 1 rfl;exact fin
  exact fz
 rintro a w ⟨ei,el,eq,f4,e8,ea,I,B⟩;unfold iK at B;refine am I fun a I=>?_;refine wl rfl (qc (R:=aB) (k:=2) (cs:=(m7 f K Q)) (us:=[.bool true]) I rfl rfl rfl OP 0 rfl 2 rfl A n rfl rfl (oc rfl on) fun sz w O I=>?_);refine am I fun a I=>?_;refine wl rfl (qc (R:=aB) (k:=3) (cs:=[aj f.d.v,a8 f.d.x,.bool true,aj f.r1,K,Q]) (us:=[aj 0]) I rfl rfl rfl EY 0 rfl 0 rfl A n rfl rfl (oc rfl on) fun sT w O I=>?_);refine go I fun a w I=>?_;replace I:=(I.zf (R:=ad) 1 rfl 2 rfl).zf (R:=a6.str) 1 rfl 4 rfl;replace I:=((I.closeH (R:=aB) (x':=(bp.mk f.d true 0 f.k f.q)) 2 rfl (⟨_,_,rfl,I.g1,I.g0⟩)).zf (R:=aB) 0 rfl 0 rfl).zn ad 30 (by decide);cases B
 refine aG I Tryz.results186 (bC I rfl 2 rfl f9 rfl (fun h=>by cases h) (aw I rfl (aw I rfl (aw I rfl (aw I rfl aI))))) ?_;have hZ:=I.sl [5,3,4,0] [10,11,1,0,12,13,14,15,16];exact⟨e8,ea,H,(.slice none 0 0),[],e4,e5,e6,d3,f2,d4,f3,rfl,hZ.g0,hZ.g1,hZ.g2,hZ.g3,hZ.zd,hZ.g4,hZ.g5,hZ.g6,hZ.g7,hZ.g8⟩
def qL (f:az) (c:dX) (d:LK) (e:LF):Option (dX×Bool×Int×az):=some (((dX.mk c.l c.b d e c.y),true,0,f))
def s6 (vrec:az->ae->Option (ByteArray×az)) (f:az) (m:dX):=(ot m).bind fun d=>cond ((d.o.length:Int)==0) (cond ((d.s1.length:Int)==0) (some ((d,false,0,f))) ((bu d.s1 0).bind fun g=>(pU d.s1 1 d.s1.length).bind fun j=>(i8 d.b ([]) g).bind fun k=>cond k (qL f d j ([(bp.mk g false 0 ([]) ([]))])) (qL f d j d.o))) ((mS vrec f d.b d.o ([])).bind fun c=>cond (c.2.2.2.2.1 != 0) (some ((d,false,c.2.2.2.2.1,(az.mk c.2.2.2.2.2.l (ah.mk c.2.2.2.2.2.b.r c.2.2.2.2.2.b.i c.2.2.2.2.2.b.s) c.2.2.2.2.2.e c.2.2.2.2.2.h)))) (gd (bP (d.y.length+c.2.2.1.length)) <| some (((dX.mk d.l (ah.mk c.1.r c.1.i c.1.s) d.s1 c.2.1 (d.y++c.2.2.1)),c.2.2.2.1,0,(az.mk c.2.2.2.2.2.l (ah.mk c.2.2.2.2.2.b.r c.2.2.2.2.2.b.i c.2.2.2.2.2.b.s) c.2.2.2.2.2.e c.2.2.2.2.2.h)))))
theorem ET (vrec:az->ae->Option (ByteArray×az)) (hvrec:ov vrec) (g:az) (X:dX) (e0 e2:Value) (e3 e4:Value) (e5 e6:Value) (p:Nat) (H K M:Value) (d:Nat) (m:Array MapEntry) (q f:Nat) (n:Array MapEntry) (j:Nat) (hD:xH T L [xS p H g.b.r K M d f,om d m q,om f n j]) (gs:aF an (dT T [xS p H g.b.r K M d f,om d m q,om f n j]) L H g.l) (gu:aF ac (dT T [xS p H g.b.r K M d f,om d m q,om f n j]) L K g.b.i) (gH:aF aa (dT T [xS p H g.b.r K M d f,om d m q,om f n j]) L M g.b.s) (gb:bE ad true a6.str false (dT T [xS p H g.b.r K M d f,om d m q,om f n j]) L m g.e) (gi:bE ad true (a6.slice ad) false (dT T [xS p H g.b.r K M d f,om d m q,om f n j]) L n g.h) (f6:aF an (dT T [xS p H g.b.r K M d f,om d m q,om f n j]) L e0 X.l) (f7:aF ac (dT T [xS p H g.b.r K M d f,om d m q,om f n j]) L e2 X.b.i) (f8:aF aa (dT T [xS p H g.b.r K M d f,om d m q,om f n j]) L e3 X.b.s) (fd:aF ad (dT T [xS p H g.b.r K M d f,om d m q,om f n j]) L e4 X.s1) (fl:aF aB (dT T [xS p H g.b.r K M d f,om d m q,om f n j]) L e5 X.o) (fn:aF ad (dT T [xS p H g.b.r K M d f,om d m q,om f n j]) L e6 X.y) (hLv:dh (dT T [xS p H g.b.r K M d f,om d m q,om f n j]) L) (y:dX×Bool×Int×az) (B:s6 vrec g X=some y):bg aR (MD [xS p H g.b.r K M d f,om d m q,om f n j]) 142 [pt p 0,.agg (xi X e0 e2 e3 e4 e5 e6).toArray] L (fun v w'=>∃ (N:Value) (t:bI) (e8 ea:Value) (ed eg P:Value) (u:bI) (Q S V:Value) (A:Array MapEntry) (E:Nat) (D:Array MapEntry) (F:Nat),v = .tuple #[.agg (xi y.1 N e8 ea ed eg P).toArray,.bool y.2.1,aj y.2.2.1]/\bk an (dT T [xS p Q y.2.2.2.b.r S V d f,om d A E,om f D F,cr N t,aA P u]) w' t y.1.l/\aF ac (dT T [xS p Q y.2.2.2.b.r S V d f,om d A E,om f D F,cr N t,aA P u]) w' e8 y.1.b.i/\aF aa (dT T [xS p Q y.2.2.2.b.r S V d f,om d A E,om f D F,cr N t,aA P u]) w' ea y.1.b.s/\aF ad (dT T [xS p Q y.2.2.2.b.r S V d f,om d A E,om f D F,cr N t,aA P u]) w' ed y.1.s1/\aF aB (dT T [xS p Q y.2.2.2.b.r S V d f,om d A E,om f D F,cr N t,aA P u]) w' eg y.1.o/\bk ad (dT T [xS p Q y.2.2.2.b.r S V d f,om d A E,om f D F,cr N t,aA P u]) w' u y.1.y/\mx L w' [xS p H g.b.r K M d f,om d m q,om f n j] [xS p Q y.2.2.2.b.r S V d f,om d A E,om f D F,cr N t,aA P u]/\aF an (dT T [xS p Q y.2.2.2.b.r S V d f,om d A E,om f D F,cr N t,aA P u]) w' Q y.2.2.2.l/\aF ac (dT T [xS p Q y.2.2.2.b.r S V d f,om d A E,om f D F,cr N t,aA P u]) w' S y.2.2.2.b.i/\aF aa (dT T [xS p Q y.2.2.2.b.r S V d f,om d A E,om f D F,cr N t,aA P u]) w' V y.2.2.2.b.s/\bE ad true a6.str false (dT T [xS p Q y.2.2.2.b.r S V d f,om d A E,om f D F,cr N t,aA P u]) w' A y.2.2.2.e/\bE ad true (a6.slice ad) false (dT T [xS p Q y.2.2.2.b.r S V d f,om d A E,om f D F,cr N t,aA P u]) w' D y.2.2.2.h):=by
 refine fT (c:=_) Tryz.func142 rfl T 68 Tryz.ntmps142 hT rfl hD fun a I=>?_;replace I:=(((((((((((I.fact bH hLv).fS f6).fS f7).fS f8).fS fd).fS fl).fS fn).fS gs).fS gu).fS gH).fM gb).fM gi;unfold s6 at B;refine kB I fun a0 h8 a w O I=>?_;refine ka I wL fun av h9 a w O I=>?_;refine am I fun a I=>?_;obtain⟨G,dl,B⟩:=bd B;replace I:=I.re [] [0,1,2,3,4];refine wl rfl (ci I J6 rfl rfl (vu _ _ I.zt X _ _ _ _ _ _ I.dok I.d10 I.d9 I.d8 I.d7 I.d6 I.d5 _ dl) fun _ w C a O U=>?_);obtain⟨Z,Y,a2,b0,a3,b2,ag,h4,cl,h5,W,a1,he,bi,bl,bs,bt,c1,c2,el⟩:=C;obtain rfl:=he.symm;have I:=U _ el;replace I:=(((((I.fR (bi.keep (al _ _) (ay _))).fR (bl.keep (al _ _) (ay _))).fR (bs.keep (al _ _) (ay _))).fR (bt.keep (al _ _) (ay _))).fR (c1.keep (al _ _) (ay _))).fR (c2.keep (al _ _) (ay _));refine go I fun a w I=>?_;refine aC ?_;refine am I fun a I=>?_;rcases cd B with⟨eq,B⟩|⟨eq,B⟩
 ·refine am I fun a I=>?_;refine aC ?_;refine am I fun a I=>?_;rcases cd B with⟨er,B⟩|⟨er,B⟩
  ·refine go I fun a w I=>?_;replace I:=(((I.zf (R:=ac) 1 rfl 4 rfl).zf (R:=aa) 1 rfl 4 rfl).zf (R:=ad) 1 rfl 4 rfl).zf (R:=aB) 1 rfl 4 rfl;cases B
   refine aG I Tryz.results142 (bC I rfl 2 rfl uL rfl (fun h=>by cases h) (aw I rfl (aw I rfl aI))) ?_;have hZ:=I.sl [4,5,6,0,1] [9,3,2,1,0,4,14,13,12,11,10];exact⟨Z,Y,a2,a3,ag,cl,W,a1,H,K,M,m,q,n,j,rfl,hZ.g0,hZ.g1,hZ.g2,hZ.g3,hZ.g4,hZ.g5,hZ.zd,hZ.g6,hZ.g7,hZ.g8,hZ.g9,hZ.g10⟩
  refine am I fun a I=>?_;obtain⟨z,dc,B⟩:=bd B;refine wl rfl (dx (R:=ad) I j7 dB rfl rfl 3 rfl 2 rfl dc rfl fun h0 hc hd h6 et ex eT a I=>?_);obtain rfl:=et;refine qy I (cg (k:=0) I dB 3 rfl ex eT rfl id (us:=(aX z)) rfl rfl (fun h=>by cases h)) fun a I=>?_;refine ka I fH fun h1 ha a w O I=>?_;refine go I fun a w I=>?_;obtain⟨ck,dk,B⟩:=bd B;obtain⟨a4,eX,f1⟩:=wc (R:=ad) I j7 dB 4 rfl 2 rfl dk;refine wl rfl (ky (v:=a4) I (f1 (k2:=.i64) rfl (.inl ⟨_,rfl,rfl⟩) (.inr ⟨rfl,rfl⟩)) rfl rfl fun a I=>?_);refine am I fun a I=>?_;replace I:=I.zf (R:=ad) 4 rfl 2 rfl;replace I:=I.fS (eX _ _ I.g0);refine go I fun a w I=>?_;refine aM (J:=fun a w=>∃ (ab:LF) (a5:Value) (a9:LV),St L (MD [xS p H g.b.r K M d f,om d m q,om f n j]) T 68 [(3,pt a0 0),(4,pt av 0)] [cr Z Y,be a2 b0,aJ a3 b2,dP a5 a9,aA W a1,.box a0 (xi G Z a2 a3 a4 a5 W) 139,.box av [.slice none 0 0,aj 0,.slice none 0 0,.slice none 0 0,.slice none 0 0,.slice none 0 0,.slice none 0 0] 139,om d m q,om f n j,xS p H g.b.r K M d f] [ap an Y G.l,ap ac b0 G.b.i,ap aa b2 G.b.s,aL ad a4 ck,ap aB a9 ab,ap ad a1 G.y,aL an H g.l,aL ac K g.b.i,aL aa M g.b.s,pg m g.e,sW n g.h,bH] a w/\qL g G ck ab=some y) ?_ ?_
  ·refine am I fun a I=>?_;have hL:=I;replace hL:=hL.zf (R:=ac) 2 rfl 6 rfl;replace hL:=hL.zf (R:=aa) 2 rfl 6 rfl;replace hL:=hL.fact (aL aB (.slice none 0 0) []) (aF.nil_ _ _ _);obtain⟨hf,dn,B⟩:=bd B;refine kF I Ny (wA _ _ hL.dlt G.b ([]) z _ _ _ hL.g2 hL.g1 hL.g0 _ dn) fun w a I=>?_;rcases cd B with⟨f2,B⟩|⟨f2,B⟩
   ·refine am I fun a I=>?_;refine qy I (bw (ps:=[(0,.tmp 36)]) I K3 uS rfl (us:=[(aX z)]) ⟨rfl,trivial⟩ (ws:=[aj z.v,a8 z.x,.bool false,aj 0,.slice none 0 0,.slice none 0 0]) rfl) fun a I=>?_;refine wl rfl (bf (ps:=[(0,.tmp 37)]) I yG uS (zl:=[aj 0,a8 cp,.bool false,aj 0,.slice none 0 0,.slice none 0 0]) (by kernel_rfl) rfl (us:=[[aj z.v,a8 z.x,.bool false,aj 0,.slice none 0 0,.slice none 0 0]]) ⟨rfl,trivial⟩ (ws:=[aj z.v,a8 z.x,.bool false,aj 0,.slice none 0 0,.slice none 0 0]) rfl rfl rfl rfl fun h2 a w O I=>?_);refine am I fun a I=>?_;replace I:=I.lit (R:=aB) (us:=[aj z.v,a8 z.x,.bool false,aj 0,.slice none 0 0,.slice none 0 0]) (xs:=[(bp.mk z false 0 ([]) ([]))]) 0 rfl (by decide) (aP (R:=aB) (x:=(bp.mk z false 0 ([]) ([]))) (⟨_,_,rfl,aF.nil_ _ _ _,aF.nil_ _ _ _⟩)) rfl rfl;exact fz
   exact fz
  rintro a w ⟨ab,a5,a9,I,B⟩;unfold qL at B;refine go I fun a w I=>?_;replace I:=((I.zf (R:=ac) 1 rfl 1 rfl).zf (R:=aa) 1 rfl 3 rfl).zf (R:=aB) 1 rfl 6 rfl;cases B
  refine aG I Tryz.results142 (bC I rfl 3 rfl uL rfl (fun h=>by cases h) (aw I rfl (aw I rfl aI))) ?_;have hZ:=I.sl [6,4,5,0,1] [3,2,1,6,0,8,9,10,11,12,13];exact⟨Z,Y,a2,a3,a4,a5,W,a1,H,K,M,m,q,n,j,rfl,hZ.g0,hZ.g1,hZ.g2,hZ.g3,hZ.g4,hZ.g5,hZ.zd,hZ.g6,hZ.g7,hZ.g8,hZ.g9,hZ.g10⟩
 refine am I fun a I=>?_;replace I:=(((I.zf (R:=ac) 1 rfl 4 rfl).zf (R:=aa) 1 rfl 4 rfl).zf (R:=aB) 2 rfl 3 rfl).fact (aL aB (.slice none 0 0) []) (aF.nil_ _ _ _);obtain⟨af,ds,B⟩:=bd B;replace I:=I.re [5,6,7] [0,1,2,3,4];refine wl rfl (ci I Qe rfl rfl (B0 _ _ I.zt vrec hvrec g G.b G.o ([]) _ _ _ _ _ _ _ _ _ _ _ _ _ _ I.dok I.d14 I.d13 I.d12 I.d11 I.d10 I.d3 I.d2 I.d1 I.d0 I.d21 _ ds) fun _ w C a O U=>?_);obtain⟨ak,ao,fr,hg,h7,cs,cv,d4,b6,b3,b7,b4,he,c3,c4,c5,c9,f3,ca,cb,ch,b9,bb⟩:=C;obtain rfl:=he.symm;have I:=U _ f3;replace I:=((((((((I.fR (c9.keep (al _ _) (ay _))).fS (c3.sub (ay _))).fS (c4.sub (ay _))).fS (c5.sub (ay _))).fS (ca.sub (ay _))).fS (cb.sub (ay _))).fS (ch.sub (ay _))).fM (b9.keep (al _ _) (ay _))).fM (bb.keep (al _ _) (ay _));refine kA I mw fun h3 hb a w O I=>?_;refine go I fun a w I=>?_;refine aC ?_;refine am I fun a I=>?_;rcases cd B with⟨f4,B⟩|⟨f4,B⟩
 ·refine go I fun a w I=>?_;replace I:=I.zf (R:=ad) 6 rfl 15 rfl;cases B
  refine aG I Tryz.results142 (bC I rfl 7 rfl uL rfl (fun h=>by cases h) (aw I rfl (aw I rfl aI))) ?_;have hZ:=I.sl [1,2,3,5,6] [19,13,12,0,11,14,5,4,3,2,1];exact⟨Z,Y,a2,a3,ag,cl,W,a1,cs,cv,d4,b6,b3,b7,b4,rfl,hZ.g0,hZ.g1,hZ.g2,hZ.g3,hZ.g4,hZ.g5,hZ.zd,hZ.g6,hZ.g7,hZ.g8,hZ.g9,hZ.g10⟩
 refine am I fun a I=>?_;refine aC ?_;refine dr [(5,.blk (Value.ownBlock W)),(7,.blk (some a0)),(9,.blk (some a0)),(11,.blk (some a0))] I fun w hQ I=>?_;refine dq 0 I (l:=[.blk (Value.ownBlock W)]) (v:=.agg (aU af.1 ak ao).toArray) (dm I rfl f9 0 rfl (gA I 0 rfl rfl 7 rfl rfl (by decide) bO) (us:=(aU af.1 ak ao)) rfl rfl (fun h=>by cases h)) fun a I=>?_;refine gE [1,2,3,4,6] I fun a I=>?_;replace I:=I.zf (R:=ad) 4 rfl 8 rfl;obtain⟨f5,B⟩:=aW B;refine e1 5 (bG (R:=ad) (xs:=G.y) (ys:=af.2.2.1) I iA (by decide) (by decide) rfl rfl 6 rfl 14 rfl 0 rfl f5 rfl fun fs ei a w O I=>⟨jf rfl O kO,?_⟩);refine es 7 I fun w I=>?_;refine gE [8] I fun a I=>?_;refine es 9 I fun w I=>?_;refine gE [10] I fun a I=>?_;refine es 11 I fun w I=>?_;refine eD ?_;refine go I fun a w I=>?_;replace I:=I.zf (R:=ad) 5 rfl 17 rfl;cases B
 refine aG I Tryz.results142 (bC I rfl 6 rfl uL rfl (fun h=>by cases h) (aw I rfl (aw I rfl aI))) ?_;have hZ:=I.sl [1,2,3,4,5] [21,10,9,0,8,1,7,6,5,4,3];exact⟨Z,Y,ak,ao,ag,fr,fs,ei,cs,cv,d4,b6,b3,b7,b4,rfl,hZ.g0,hZ.g1,hZ.g2,hZ.g3,hZ.g4,hZ.g5,hZ.zd,hZ.g6,hZ.g7,hZ.g8,hZ.g9,hZ.g10⟩
def vw (b:Int) (c:LU) (d:Int) (e:LI) (f:LR) (g:LK) (h:LF) (i:LK):Option (dX×Int×Int):=some (((dX.mk c (ah.mk d e f) g h i),b,0))
def rX (vrec:az->ae->Option (ByteArray×az)) (q d:Int) (f:LU) (g:Int) (j:LI) (k:LR) (m:LK) (n:LF) (p:LK) (t:LU) (u:Int) (v:LI) (x:LR) (z:LB) (A:LL):Option (Fl (Int×LU×Int×LI×LR×LK×LF×LK×LU×Int×LI×LR×LB×LL) (Fl (Int×LU×Int×LI×LR×LK×LF×LK) (dX×Int×Int))):=cond (decide (d<q)) ((s6 vrec (az.mk t (ah.mk u v x) z A) (dX.mk f (ah.mk g j k) m n p)).bind fun c=>cond (c.2.2.1 != 0) (some (.out (.out ((dX.mk f (ah.mk g j k) m n p),d,c.2.2.1)))) (cond (!(c.2.1)) (some (.out (.out ((dX.mk c.1.l (ah.mk c.1.b.r c.1.b.i c.1.b.s) c.1.s1 c.1.o c.1.y),d,0)))) (some (.go (IntKind.i64.wrap (d+1),c.1.l,c.1.b.r,c.1.b.i,c.1.b.s,c.1.s1,c.1.o,c.1.y,c.2.2.2.l,c.2.2.2.b.r,c.2.2.2.b.i,c.2.2.2.b.s,c.2.2.2.e,c.2.2.2.h))))) (some (.out (.go (d,f,g,j,k,m,n,p))))
def uA (vrec:az->ae->Option (ByteArray×az)) (j:dX) (f:Int):=(ot j).bind fun c=>cond (decide (f<=0)) (some ((c,0,0))) ((ri c).bind fun g=>cond (!(g)) (some ((c,0,44))) ((si c.l c.b).bind fun d=>(loop (fun s:Int×LU×Int×LI×LR×LK×LF×LK×LU×Int×LI×LR×LB×LL=>rX vrec f s.1 s.2.1 s.2.2.1 s.2.2.2.1 s.2.2.2.2.1 s.2.2.2.2.2.1 s.2.2.2.2.2.2.1 s.2.2.2.2.2.2.2.1 s.2.2.2.2.2.2.2.2.1 s.2.2.2.2.2.2.2.2.2.1 s.2.2.2.2.2.2.2.2.2.2.1 s.2.2.2.2.2.2.2.2.2.2.2.1 s.2.2.2.2.2.2.2.2.2.2.2.2.1 s.2.2.2.2.2.2.2.2.2.2.2.2.2) (0,c.l,c.b.r,c.b.i,c.b.s,c.s1,c.o,c.y,d.l,d.b.r,d.b.i,d.b.s,d.e,d.h)).bind fun r=>Fl.el r (fun s=>vw s.1 s.2.1 s.2.2.1 s.2.2.2.1 s.2.2.2.2.1 s.2.2.2.2.2.1 s.2.2.2.2.2.2.1 s.2.2.2.2.2.2.2) (fun y=>some (y))))
theorem Ge (hLv:dh T L) (vrec:az->ae->Option (ByteArray×az)) (hvrec:ov vrec) (c:dX) (d:Int) (v1 v2:Value) (v3 v4:Value) (v5 v6:Value) (f6:aF an T L v1 c.l) (f7:aF ac T L v2 c.b.i) (f8:aF aa T L v3 c.b.s) (fd:aF ad T L v4 c.s1) (fl:aF aB T L v5 c.o) (fn:aF ad T L v6 c.y) (y:dX×Int×Int) (B:uA vrec c d=some y):bg aR No 88 [.agg (xi c v1 v2 v3 v4 v5 v6).toArray,aj d] L (fun v w'=>∃ (v7 v8:Value) (v9 e5:Value) (e6 e8:Value),v = .tuple #[.agg (xi y.1 v7 v8 v9 e5 e6 e8).toArray,aj y.2.1,aj y.2.2]/\aF an (dT T []) w' v7 y.1.l/\aF ac (dT T []) w' v8 y.1.b.i/\aF aa (dT T []) w' v9 y.1.b.s/\aF ad (dT T []) w' e5 y.1.s1/\aF aB (dT T []) w' e6 y.1.o/\aF ad (dT T []) w' e8 y.1.y):=by
 refine en Tryz.func88 Tryz.ntmps88 hT fun a I=>?_;replace I:=((((((I.fact bH (dh.dn hLv)).fS (aF.dn f6)).fS (aF.dn f7)).fS (aF.dn f8)).fS (aF.dn fd)).fS (aF.dn fl)).fS (aF.dn fn);unfold uA at B;refine kB I fun z hk a w O I=>?_;refine ka I wL fun A hl a w O I=>?_;refine am I fun a I=>?_;obtain⟨ag,e2,B⟩:=bd B;replace I:=I.re [] [0,1];refine wl rfl (ci I J6 rfl rfl (vu _ _ I.zt c _ _ _ _ _ _ I.dok I.d5 I.d4 I.d3 I.d2 I.d1 I.d0 _ e2) fun _ w C a O U=>?_);obtain⟨cv,h2,d6,h3,dc,h4,dk,h5,dl,h6,ds,h7,he,b9,bb,bi,bl,bs,bt,ea⟩:=C;obtain rfl:=he.symm;have I:=U _ ea;replace I:=(((((I.fR (b9.keep (al _ _) (ay _))).fR (bb.keep (al _ _) (ay _))).fR (bi.keep (al _ _) (ay _))).fR (bl.keep (al _ _) (ay _))).fR (bs.keep (al _ _) (ay _))).fR (bt.keep (al _ _) (ay _));refine go I fun a w I=>?_;refine aC ?_;refine am I fun a I=>?_;rcases cd B with⟨ed,B⟩|⟨ed,B⟩
 ·refine go I fun a w I=>?_;replace I:=(((((I.zf (R:=an) 0 rfl 5 rfl).zf (R:=ac) 0 rfl 5 rfl).zf (R:=aa) 0 rfl 5 rfl).zf (R:=ad) 0 rfl 5 rfl).zf (R:=aB) 0 rfl 5 rfl).zf (R:=ad) 0 rfl 5 rfl;cases B
  refine aG I Tryz.results88 (bC I rfl 0 rfl uL rfl (fun h=>by cases h) (aw I rfl (aw I rfl aI))) ?_;exact⟨cv,d6,dc,dk,dl,ds,rfl,(aF.up trivial I.g5),(aF.up trivial I.g4),(aF.up trivial I.g3),(aF.up trivial I.g2),(aF.up trivial I.g1),(aF.up trivial I.g0)⟩
 refine am I fun a I=>?_;refine aC ?_;refine am I fun a I=>?_;have hL:=I;replace hL:=hL.zf (R:=an) 0 rfl 5 rfl;replace hL:=hL.zf (R:=ac) 0 rfl 5 rfl;replace hL:=hL.zf (R:=aa) 0 rfl 5 rfl;replace hL:=hL.zf (R:=ad) 0 rfl 5 rfl;replace hL:=hL.zf (R:=aB) 0 rfl 5 rfl;replace hL:=hL.zf (R:=ad) 0 rfl 5 rfl;obtain⟨ho,e3,B⟩:=bd B;refine kF I PM (C9 _ _ hL.dlt hL.g18 ag _ _ _ _ _ _ hL.g5 hL.g4 hL.g3 hL.g2 hL.g1 hL.g0 _ e3) fun w a I=>?_;rcases cd B with⟨eg,B⟩|⟨eg,B⟩
 ·refine go I fun a w I=>?_;replace I:=(((((I.zf (R:=an) 0 rfl 5 rfl).zf (R:=ac) 0 rfl 5 rfl).zf (R:=aa) 0 rfl 5 rfl).zf (R:=ad) 0 rfl 5 rfl).zf (R:=aB) 0 rfl 5 rfl).zf (R:=ad) 0 rfl 5 rfl;cases B
  refine aG I Tryz.results88 (bC I rfl 0 rfl uL rfl (fun h=>by cases h) (aw I rfl (aw I rfl aI))) ?_;exact⟨cv,d6,dc,dk,dl,ds,rfl,(aF.up trivial I.g5),(aF.up trivial I.g4),(aF.up trivial I.g3),(aF.up trivial I.g2),(aF.up trivial I.g1),(aF.up trivial I.g0)⟩
 refine am I fun a I=>?_;replace I:=((I.zf (R:=an) 0 rfl 5 rfl).zf (R:=ac) 0 rfl 5 rfl).zf (R:=aa) 0 rfl 5 rfl;obtain⟨hp,e4,B⟩:=bd B;replace I:=I.re [] [0,1,2,3,4];refine wl rfl (ci I Fp rfl rfl (rc _ _ I.zt ag.l ag.b _ _ _ I.dok I.d2 I.d1 I.d0 _ e4) fun _ w C a O U=>?_);obtain⟨b0,hq,hs,ht,b1,hf,h8,b2,hg,h9,he,c1,c2,c3,b5,b6,ei⟩:=C;obtain rfl:=he.symm;have I:=U _ ei;replace I:=((((I.fS (c1.sub (ay _))).fS (c2.sub (ay _))).fS (c3.sub (ay _))).fM (b5.keep (al _ _) (ay _))).fM (b6.keep (al _ _) (ay _));refine am I fun a I=>?_;refine aM (J:=fun a w=>∃ (a1:Int) (a2:LU) (a3:Int) (a4:LI) (a5:LR) (a9:LK) (ab:LF) (af:LK) (E:Value) (X:LV) (F G:Value) (H K M:Value),St L No T 50 [(2,pt z 0),(4,pt A 0),(8,aj a1)] [aA E X,.box z [F,aj a3,G,H,K,M,E] 139,.box A [.slice none 0 0,aj 0,.slice none 0 0,.slice none 0 0,.slice none 0 0,.slice none 0 0,.slice none 0 0] 139] [aL an F a2,aL ac G a4,aL aa H a5,aL ad K a9,aL aB M ab,ap ad X af,bH] a w/\vw a1 a2 a3 a4 a5 a9 ab af=some y) ?_ ?_
 ·refine am I fun a I=>?_;replace I:=(I.zf (R:=ad) 3 rfl 10 rfl).zf (R:=aB) 3 rfl 10 rfl;obtain⟨r1,f5,hMo1⟩:=bd B;refine bF _ (fun s a w=>∃ (D:Int) (n:LU) (p:Int) (q:LI) (r:LR) (t:LK) (u:LF) (x:LK) (e:LU) (f:Int) (g:LI) (j:LR) (k:LB) (m:LL) (N:Value) (Y:LV) (Z:AM) (b3:Nat) (a0:AM) (b4:Nat) (P Q:Value) (S V:Value) (W ak:Value) (ao av:Value),(D,n,p,q,r,t,u,x,e,f,g,j,k,m)=s/\St L No T 50 [(1,aj d),(2,pt z 0),(4,pt A 0),(7,pt b0 0),(8,aj D)] [aA N Y,.box z [P,aj p,Q,S,V,W,N] 139,.box A [.slice none 0 0,aj 0,.slice none 0 0,.slice none 0 0,.slice none 0 0,.slice none 0 0,.slice none 0 0] 139,om b1 Z b3,om b2 a0 b4,xS b0 ak f ao av b1 b2] [aL an P n,aL ac Q q,aL aa S r,aL ad V t,aL aB W u,ap ad Y x,aL an ak e,aL ac ao g,aL aa av j,pg Z k,sW a0 m,bH] a w) f5 ⟨_,_,_,_,_,_,_,_,_,_,_,_,_,_,_,_,_,_,_,_,_,_,_,_,_,_,_,_,rfl,I.mt [3,5,4,1,2,0] [9,8,7,1,0,10,6,5,4,3,2,22]⟩ ?_;rintro s a w f1 ⟨D,n,p,q,r,t,u,x,e,f,g,j,k,m,N,Y,Z,b3,a0,b4,P,Q,S,V,W,ak,ao,av,rfl,I⟩ B hf1;have B:rX vrec d D n p q r t u x e f g j k m=some f1:=B;unfold rX at B;refine aC ?_;refine am I fun a I=>?_;rcases cd B with⟨el,B⟩|⟨el,B⟩
  ·refine am I fun a I=>?_;replace I:=I.zf (R:=ad) 0 rfl 5 rfl;obtain⟨hn,e0,B⟩:=bd B;replace I:=I.re [4,2,3] [0,1];refine wl rfl (ci I PN rfl rfl (ET _ _ I.zt vrec hvrec (az.mk e (ah.mk f g j) k m) (dX.mk n (ah.mk p q r) t u x) _ _ _ _ _ _ _ _ _ _ _ _ _ _ _ _ I.dok I.d7 I.d8 I.d9 I.d10 I.d11 I.d1 I.d2 I.d3 I.d4 I.d5 I.d0 I.d12 _ e0) fun _ w C a O U=>?_);obtain⟨ex,ha,eT,eX,f2,f3,f4,hb,hu,hv,hw,hh,hc,hi,hd,he,c4,c5,c9,ca,cb,ch,eq,ck,cl,cs,b7,b8⟩:=C;obtain rfl:=he.symm;have I:=U _ eq;replace I:=((((((((((I.fR (c4.keep (al _ _) (ay _))).fR (ch.keep (al _ _) (ay _))).fS (c5.sub (ay _))).fS (c9.sub (ay _))).fS (ca.sub (ay _))).fS (cb.sub (ay _))).fS (ck.sub (ay _))).fS (cl.sub (ay _))).fS (cs.sub (ay _))).fM (b7.keep (al _ _) (ay _))).fM (b8.keep (al _ _) (ay _));refine kA I wL fun h1 hm a w O I=>?_;refine go I fun a w I=>?_;refine aC ?_;refine am I fun a I=>?_;rcases cd B with⟨er,B⟩|⟨er,B⟩
   ·refine go I fun a w I=>?_;cases B
    have hr:=hf1 _ rfl;subst hr;replace hMo1:=iE hMo1;have B:=hMo1;cases B
    refine aG I Tryz.results88 (bC I rfl 7 rfl uL rfl (fun h=>by cases h) (aw I rfl (aw I rfl aI))) ?_;exact⟨P,Q,S,V,W,N,rfl,(aF.up trivial I.g12),(aF.up trivial I.g13),(aF.up trivial I.g14),(aF.up trivial I.g15),(aF.up trivial I.g16),(aF.up trivial I.g11)⟩
   refine am I fun a I=>?_;refine aC ?_;refine am I fun a I=>?_;rcases cd B with⟨et,B⟩|⟨et,B⟩
   ·refine go I fun a w I=>?_;replace I:=(I.zf (R:=an) 4 rfl 10 rfl).zf (R:=ad) 4 rfl 10 rfl;cases B
    have hr:=hf1 _ rfl;subst hr;replace hMo1:=iE hMo1;have B:=hMo1;cases B
    refine aG I Tryz.results88 (bC I rfl 5 rfl uL rfl (fun h=>by cases h) (aw I rfl (aw I rfl aI))) ?_;exact⟨ex,eT,eX,f2,f3,f4,rfl,(aF.up trivial I.g1),(aF.up trivial I.g10),(aF.up trivial I.g9),(aF.up trivial I.g8),(aF.up trivial I.g7),(aF.up trivial I.g0)⟩
   refine go I fun a w I=>?_;replace I:=I.zf (R:=an) 4 rfl 10 rfl;exact fin
  exact fz
 rintro a w ⟨a1,a2,a3,a4,a5,a9,ab,af,E,X,F,G,H,K,M,I,B⟩;unfold vw at B;refine go I fun a w I=>?_;replace I:=I.zf (R:=ad) 0 rfl 5 rfl;cases B
 refine aG I Tryz.results88 (bC I rfl 1 rfl uL rfl (fun h=>by cases h) (aw I rfl (aw I rfl aI))) ?_;exact⟨F,G,H,K,M,E,rfl,(aF.up trivial I.g1),(aF.up trivial I.g2),(aF.up trivial I.g3),(aF.up trivial I.g4),(aF.up trivial I.g5),(aF.up trivial I.g0)⟩
end
end
end Go.Proofs.YtcpplgcgcbihoaaGreatDoor
