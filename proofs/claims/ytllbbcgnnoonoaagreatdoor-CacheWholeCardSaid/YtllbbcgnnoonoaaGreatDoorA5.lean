/- Texts of the proof, joined (5). -/
import Derived.Test.YtllbbcgnnoonoaaGreatDoorA4
import Derived.Test.YtllbbcgnnoonoaaGreatDoorA2
import Derived.Test.YtllbbcgnnoonoaaGreatDoorA3
set_option linter.unusedVariables false
set_option linter.unusedSimpArgs false
set_option linter.unusedSectionVars false
namespace Go.Proofs.YtllbbcgnnoonoaaGreatDoor
open Go.RowKit
section
open Go.Lib hiding intOf
variable {α:Type} {E:α->α->Prop} {T:List ae} {r x:ae} {z:α}
instance VV:DecidableEq ae:=fun a b=>decidable_of_iff (fa a b=true) fc
inductive iE {α:Type} (E:α->α->Prop) (x:α):α->Prop
 | refl:iE E x x
 | snoc {y z:α}:iE E x y->E y z->iE E x z
theorem iE.trans {x y:α} (h:iE E x y) (k:iE E y z):iE E x z:=by
 induction k with
 | refl=>exact h
 | snoc _ e ih=>exact .snoc ih e
theorem iE.head {x y:α} (h:E x y) (k:iE E y z):iE E x z:=(iE.snoc .refl h).trans k
def IJ (E:α->α->Prop) (x z:α):Prop:=∃ y,iE E x y/\E y z
theorem IJ.star {x:α} (h:IJ E x z):iE E x z:=by obtain⟨y,h1,h2⟩:=h; exact .snoc h1 h2
theorem iE.plus {x:α} (h:iE E x z) (hne:x≠z):IJ E x z:=by
 cases h with
 | refl=>exact absurd rfl hne
 | snoc h1 h2=>exact⟨_,h1,h2⟩
theorem kS {α:Type}:∀ {l m:List α},l.Nodup->(∀ x∈l,x∈m)->l.length<=m.length
 | [],m,_,_=>cT _
 | x::l,m,h,hs=>by
  have h':=yW.1 h;obtain⟨a,b,rfl⟩:=List.append_of_mem (hs x dF);have:=kS (l:=l) (m:=a++b) h'.2 fun y hy=>by
   have h1:=hs y (lp _ hy);rw [cM,bC] at h1;rw [cM];rcases h1 with h1 | rfl | h1
   ·exact .inl h1
   ·exact absurd hy h'.1
   ·exact .inr h1
  simp only [dx,br] at this ⊢;omega
theorem dI:∀ a b:ae,aB a b=true↔a=b:=fun a b=>fc (a:=a) (b:=b)
theorem M3 {m:List (ae×Bool)} {M:List ae} (h:∀ x,(cJ aB x m).getD false=decide (x∈M)) (e:ae):∀ x,(cJ aB x (ew aB e true m)).getD false=decide (x∈M++[e]):=fun x=>by
 rw [lZ dI];by_cases hx:x=e
 ·subst hx; rw [if_pos ((dI _ _).2 rfl)]; simp
 ·rw [if_neg (fun h=>hx ((dI _ _).1 h)),h]; simp [hx]
section
variable {succ:ae->List ae} {filt:ae->Bool}
def II (succ:ae->List ae) (filt:ae->Bool) (T:List ae) (i g:Nat) (x r:ae):Prop :=
 ∃ j,T[j]? = some x/\filt r=true/\((j<i/\r∈succ x)∨(j=i/\r∈(succ x).take g))
theorem II.grow {T':List ae} {i g:Nat} (hi:i<T.length):II succ filt (T++T') i g x r↔II succ filt T i g x r:=by
 constructor
 ·rintro⟨j,h1,h2,h3⟩;rw [jm (by omega)] at h1;exact⟨j,h1,h2,h3⟩
 ·rintro⟨j,h1,h2,h3⟩;exact⟨j,by rw [jm (by omega)]; exact h1,h2,h3⟩
theorem II.step {i g:Nat} {c e:ae} (hc:T[i]? = some c) (he:(succ c)[g]? = some e):II succ filt T i (g+1) x r↔II succ filt T i g x r∨(x=c/\r=e/\filt e=true):=by
 constructor
 ·rintro⟨j,h1,h2,h3 | ⟨rfl,h3⟩⟩
  ·exact .inl ⟨j,h1,h2,.inl h3⟩
  ·rw [hc] at h1;injection h1 with h1;subst h1;rw [bI he,cM,cp] at h3;rcases h3 with h3 | rfl
   ·exact .inl ⟨j,hc,h2,.inr ⟨rfl,h3⟩⟩
   ·exact .inr ⟨rfl,rfl,h2⟩
 ·rintro (⟨j,h1,h2,h3 | ⟨rfl,h3⟩⟩|⟨rfl,rfl,h⟩)
  ·exact⟨j,h1,h2,.inl h3⟩
  ·rw [hc] at h1;injection h1 with h1;subst h1;exact⟨j,hc,h2,.inr ⟨rfl,by rw [bI he]; exact mb _ h3⟩⟩
  ·exact⟨i,hc,h,.inr ⟨rfl,by rw [bI he]; simp⟩⟩
theorem II.next {i:Nat} {c:ae} (hc:T[i]? = some c):II succ filt T i (succ c).length x r↔II succ filt T (i+1) 0 x r:=by
 constructor
 ·rintro⟨j,h1,h2,h3 | ⟨rfl,h3⟩⟩
  ·exact⟨j,h1,h2,.inl ⟨by omega,h3.2⟩⟩
  ·rw [hc] at h1;injection h1 with h1;subst h1;rw [f9] at h3;exact⟨j,hc,h2,.inl ⟨by omega,h3⟩⟩
 ·rintro⟨j,h1,h2,h3 | ⟨rfl,h3⟩⟩
  ·by_cases hj:j=i
   ·subst hj;rw [hc] at h1;injection h1 with h1;subst h1;exact⟨j,hc,h2,.inr ⟨rfl,by rw [f9]; exact h3.2⟩⟩
   ·exact⟨j,h1,h2,.inl ⟨by omega,h3.2⟩⟩
  ·simp at h3
structure WL (succ:ae->List ae) (filt:ae->Bool) (Rch:ae->Prop) (pre:List ae) (seen:List (ae×Bool)) (M:List ae) (i g:Nat):Prop where
 nd:M.Nodup
 see:∀ x,(cJ aB x seen).getD false=decide (x∈M)
 rch:∀ x∈M,Rch x
 con:∀ x r,II succ filt (pre++M) i g x r->r∈M
variable {Rch:ae->Prop} {pre:List ae} {seen:List (ae×Bool)} {M:List ae} {i g:Nat} {c e:ae}
theorem WL.skip (h:WL succ filt Rch pre seen M i g) (hc:(pre++M)[i]? = some c) (he:(succ c)[g]? = some e) (hf:filt e=false):WL succ filt Rch pre seen M i (g+1) :=
 ⟨h.nd,h.see,h.rch,fun x r hx=>by
  rcases (II.step hc he).1 hx with h1 | ⟨_,_,h1⟩
  ·exact h.con x r h1
  ·rw [hf] at h1; cases h1⟩
theorem WL.old (h:WL succ filt Rch pre seen M i g) (hc:(pre++M)[i]? = some c) (he:(succ c)[g]? = some e) (hm:e∈M):WL succ filt Rch pre seen M i (g+1) :=
 ⟨h.nd,h.see,h.rch,fun x r hx=>by
  rcases (II.step hc he).1 hx with h1 | ⟨_,rfl,_⟩
  ·exact h.con x r h1
  ·exact hm⟩
theorem WL.new (h:WL succ filt Rch pre seen M i g) (hc:(pre++M)[i]? = some c) (he:(succ c)[g]? = some e) (hm:e ∉ M) (hr:Rch e):WL succ filt Rch pre (ew aB e true seen) (M++[e]) i (g+1) :=
 ⟨List.nodup_append.2 ⟨h.nd,by simp,fun a ha b hb e2=>by rw [cp] at hb; subst hb e2; exact hm ha⟩,M3 h.see e,fun x hx=>by
  rcases cM.1 hx with hx | hx
  ·exact h.rch x hx
  ·rw [cp] at hx; subst hx; exact hr,fun x r hx=>by
  have hi:i<(pre++M).length:=(bR.1 hc).1;rw [<- cA,II.grow hi] at hx;rcases (II.step hc he).1 hx with h1 | ⟨_,rfl,_⟩
  ·exact mb _ (h.con x r h1)
  ·simp⟩
theorem WL.next (h:WL succ filt Rch pre seen M i g) (hc:(pre++M)[i]? = some c) (hg:g=(succ c).length):WL succ filt Rch pre seen M (i+1) 0 :=
 ⟨h.nd,h.see,h.rch,fun x r hx=>h.con x r (by subst hg; exact (II.next hc).2 hx)⟩
theorem WL.fin (h:WL succ filt Rch pre seen M i g) (hi:(pre++M).length<=i) (hx:x∈pre++M) (hr:r∈succ x) (hf:filt r=true):r∈M:=by
 obtain⟨j,hj⟩:=dt.1 hx;exact h.con x r ⟨j,hj,hf,.inl ⟨by have:=(bR.1 hj).1; omega,hr⟩⟩
end
section
variable {rd:ae->List ae} {op:ae->Bool} {k:ae}
def Eg (rd:ae->List ae) (op:ae->Bool) (x y:ae):Prop:=op x=true/\y∈rd x/\op y=true
theorem O6 (O:op k=true) (h:iE (Eg rd op) k x):op x=true:=by
 cases h with
 | refl=>exact O
 | snoc _ e=>exact e.2.2
end
def lY (k:ae):Bool:=decide (k.k=32)||(decide (k.k=7)||decide (k.k=14)||decide (k.k=17)||decide (k.k=18))
theorem n8 (k:ae):dZ k=some (lY k):=by
 unfold dZ sR lY gX gW;have hb:∀ n:Int,((k.k:Int)==n)=decide (k.k=n):=fun n=>by rw [KA]; simp
 rw [hb,hb,hb,hb,hb];by_cases h32:k.k=32
 ·simp [h32]
 ·by_cases h7:k.k=7
  ·simp [h7]
  ·by_cases h14:k.k=14
   ·simp [h14]
   ·by_cases h17:k.k=17
    ·simp [h17]
    ·by_cases h18:k.k=18
     ·simp [h18]
     ·simp only [h32,h7,h14,h17,h18,decide_false,Bool.or_false,cond_false];cases decide ((1:Int)<=k.k) <;> cases decide ((k.k:Int)<=22) <;> rfl
def Kd (r:ar) (rev:Int):Bool:=lY r.b&&decide (r.u<rev) && !r.y
theorem HW (r:ar) (rev:Int):Kd r rev=(lY r.b&&decide (r.u<rev) && !r.y):=rfl
noncomputable def wG (l:List ar) (rev:Int) (k:ae):Bool:=(bj l k).2&&Kd (bj l k).1 rev
def AG (l:List ar) (k:ae):List ae:=(bj l k).1.v
theorem cB {l:List ar} {k:ae} (h:(bj l k).2=true):(bj l k).1∈l/\(bj l k).1.b=k:=by
 unfold bj at *;cases hf:l.find? (fun r=>fa r.b k) with
 | none=>rw [hf] at h; cases h
 | some r =>
  have h2:=List.find?_some hf;exact⟨Gk hf,fc.1 h2⟩
theorem rL {l:List ar} {k:ae} (h:(bj l k).2=false):bj l k=(U8,false)/\∀ r∈l,r.b≠k:=by
 unfold bj at *;cases hf:l.find? (fun r=>fa r.b k) with
 | none =>
  refine⟨rfl,fun r hr e=>?_⟩;have:=DK.1 hf r hr;exact this (fc.2 e)
 | some r=>rw [hf] at h; cases h
theorem FY {l:List ar} {rev:Int} {k:ae} (h:wG l rev k=true):k∈l.map ar.b:=by
 unfold wG at h;simp only [lq] at h;obtain⟨h1,h2⟩:=cB h.1;exact cL.2 ⟨_,h1,h2⟩
theorem yL {l:List ar} (hl:NY l) (rev:Int) (k:ae):ry l rev k=some (wG l rev k):=by
 unfold ry kf;rw [vW hl,al];cases hf:(bj l k).2 with
 | false=>simp [wG,hf]
 | true =>
  have O:=(cB hf).2;unfold wG;rw [hf,HW,O,cond_true,n8,al];cases lY k <;> cases decide (((bj l k).1.u:Int)<rev) <;> rfl
structure LE (l:List ar):Prop where
 asc:Cd l
 len:l.length<=1000
 rds:∀ r∈l,r.v.length<=1000
theorem LE.rm {l:List ar} (h:LE l):NY l:=⟨by have:=h.len; unfold Rm; omega,fun r hr=>by have:=h.rds r hr; unfold Rm; omega⟩
theorem LE.rd {l:List ar} (h:LE l) (k:ae):(AG l k).length<=1000:=by
 unfold AG;cases hf:(bj l k).2 with
 | true=>exact h.rds _ (cB hf).1
 | false=>rw [(rL hf).1]; exact cT _
noncomputable abbrev Ek (l:List ar) (rev:Int):=Eg (AG l) (wG l rev)
def Ud (l:List ar) (rev:Int) (k:ae) (m:List ae):Prop:=Fq m/\∀ x,x∈m↔iE (Ek l rev) k x/\iE (Ek l rev) x k
section
variable {l:List ar} (hl:LE l) {rev:Int} {k:ae} (O:wG l rev k=true)
theorem qQ (O:wG l rev k=true) (h:iE (Ek l rev) k x):wG l rev x=true:=O6 O h
abbrev B1 (l:List ar) (rev:Int) (k:ae) (seen:List (ae×Bool)) (M:List ae) (i g:Nat):Prop:=WL (AG l) (wG l rev) (IJ (Ek l rev) k) [k] seen M i g
theorem B1.len {seen:List (ae×Bool)} {M:List ae} {i g:Nat} (h:B1 l rev k seen M i g):M.length<=l.length:=by
 have:=kS (m:=l.map ar.b) h.nd fun x hx=>by
  obtain⟨y,_,e⟩:=h.rch x hx;exact FY e.2.2
 rwa [iq] at this
include hl O in
theorem MK {seen:List (ae×Bool)} {M:List ae} {i:Nat} {c:ae} (hc:([k]++M)[i]? = some c) (h:B1 l rev k seen M i 0) :
  Ok (loop (fun s:(List (ae×Bool))×(List ae)×Int=>gA l rev (bj l c) s.1 s.2.1 s.2.2) (seen,[k]++M,0)) fun r=>∃ M',r.2=[k]++M'/\B1 l rev k r.1 M' (i+1) 0/\i<([k]++M').length:=by
 have hcs:iE (Ek l rev) k c:=by
  cases i with
  | zero=>simp at hc; subst hc; exact .refl
  | succ i =>
   rw [jn (by simp)] at hc;exact (h.rch c (az hc)).star
 have hcop:=qQ O hcs;have hrl:=hl.rd c;have hll:=hl.len;refine s8 (B:=fun s:(List (ae×Bool))×(List ae)×Int=>gA l rev (bj l c) s.1 s.2.1 s.2.2)
  (fun g s=>s.2.2=(g:Int)/\∃ M',s.2.1=[k]++M'/\B1 l rev k s.1 M' i g/\([k]++M')[i]? = some c) _ (AG l c).length ?_ ?_ ⟨rfl,M,rfl,h,hc⟩
 ·rintro g ⟨sn,L,gi⟩ hg ⟨rfl,M',rfl,U,hLc⟩;dsimp only at U hLc ⊢;have hge:(AG l c)[g]? = some (AG l c)[g]:=bh hg;have hlen:=B1.len U;have hLi:i<([k]++M').length:=(bR.1 hLc).1;refine .inl ?_;have hgu:(bj l c).1.v=AG l c:=rfl;unfold gA;rw [hgu,dlt hg,cond_true,aV,hge,al];generalize (AG l c)[g]=e at hge;rw [yL hl.rm,al];unfold nu nr;rw [cy (by omega)];cases hf:wG l rev e with
  | false=>exact⟨_,rfl,rfl,M',rfl,U.skip hLc hge hf,hLc⟩
  | true =>
   have hEg:Ek l rev c e:=⟨hcop,az hge,hf⟩;rw [cond_true,U.see e,al];by_cases hm:e∈M'
   ·rw [decide_eq_true hm];exact⟨_,rfl,rfl,M',rfl,U.old hLc hge hm,hLc⟩
   ·rw [decide_eq_false hm];simp only [mL,cond_true];rw [gd,eZ (by simp only [mM,br]; omega),cond_true];refine⟨_,rfl,rfl,M'++[e],by simp,U.new hLc hge hm ⟨c,hcs,hEg⟩,?_⟩;rw [<- cA,jm hLi]; exact hLc
 ·rintro⟨sn,L,gi⟩ ⟨rfl,M',rfl,U,hLc⟩;dsimp only at U hLc ⊢;have hend:gA l rev (bj l c) sn ([k]++M') ((AG l c).length:Int)=some (.out (sn,[k]++M')):=by
   unfold gA;rw [show (bj l c).1.v=AG l c from rfl,bZ]; rfl
  exact⟨_,hend,M',rfl,U.next hLc rfl,(bR.1 hLc).1⟩
include hl O in
theorem HK:Ok (pV l rev k) fun m=>∀ x,(cJ aB x m).getD false=true↔IJ (Ek l rev) k x:=by
 have hll:=hl.len;have h0:B1 l rev k [] [] 0 0:=⟨List.nodup_nil,fun x=>by simp [cJ],fun x hx=>by simp at hx,fun x r h=>by
  obtain⟨j,h1,h2,h3 | ⟨_,h3⟩⟩:=h
  ·omega
  ·simp at h3⟩
 have fin:∀ {sn M i},B1 l rev k sn M i 0->([k]++M).length<=i->∀ x,(cJ aB x sn).getD false=true↔IJ (Ek l rev) k x:=by
  intro sn M i U hL x;rw [U.see,decide_eq_true_iff];refine⟨U.rch x,?_⟩;rintro⟨y,hy,e⟩;have hall:∀ z,iE (Ek l rev) k z->z∈[k]++M:=fun z hz=>by
   induction hz with
   | refl=>simp
   | snoc _ e ih=>exact ov _ (U.fin hL ih e.2.1 e.2.2)
  exact U.fin hL (hall y hy) e.2.1 e.2.2
 unfold pV qF;refine aP (Q:=fun m=>∀ x,(cJ aB x m).getD false=true↔IJ (Ek l rev) k x) ?_ fun m hm=>aq hm;refine s8 (B:=fun s:(List (ae×Bool))×(List ae)×Int=>je l rev s.1 s.2.1 s.2.2)
  (fun i s=>s.2.2=(i:Int)/\∃ M,s.2.1=[k]++M/\B1 l rev k s.1 M i 0/\i<=([k]++M).length) _ (l.length+1) ?_ ?_ ⟨rfl,[],rfl,h0,cT _⟩
 ·rintro i ⟨sn,L,ii⟩ hi ⟨rfl,M,rfl,U,hiL⟩;dsimp only at U hiL ⊢;by_cases hlt:i<([k]++M).length
  ·refine .inl ?_;have hc:([k]++M)[i]? = some ([k]++M)[i]:=bh hlt;obtain⟨⟨s2,L2⟩,e2,M',rfl,h2,h3⟩:=MK hl O hc U;refine⟨(s2,[k]++M',((i+1:Nat):Int)),?_,rfl,M',rfl,h2,h3⟩;unfold je nq;rw [dlt hlt,cond_true,aV,hc,al,vW hl.rm,al,e2,al,cy (by omega)]
  ·refine .inr ⟨sn,?_,fin U (by omega)⟩;unfold je;rw [Hj hlt]; rfl
 ·rintro⟨sn,L,ii⟩ ⟨rfl,M,rfl,U,hiL⟩;dsimp only at U hiL ⊢;have hlen:=B1.len U;have hlen2:([k]++M).length<=l.length+1:=by rw [br,mM]; omega
  refine⟨sn,?_,fin U hlen2⟩;unfold je;rw [Hj (by omega)]; rfl
include hl O in
theorem M9:Ok (tQ l rev k) (Ud l rev k):=by
 have hll:=hl.len;unfold tQ;rw [yL hl.rm,al,O];simp only [eE,cond_false];refine aP (HK hl O) fun tm htm=>?_;unfold uo;refine aP (Q:=fun out=>out.length<=1001/\∀ x,x∈out↔iE (Ek l rev) k x/\iE (Ek l rev) x k) ?_ fun out ⟨h1,h2⟩=>?_
 ·refine s8 (B:=fun s:(List ae)×Int=>pU l rev k tm s.1 s.2)
   (fun i s=>s.2=(i:Int)/\s.1.length<=i+1/\∀ x,x∈s.1↔x=k∨(∃ r∈l.take i,r.b=x)/\iE (Ek l rev) k x/\iE (Ek l rev) x k) _ l.length ?_ ?_ ⟨rfl,by simp,fun x=>by simp⟩
  ·rintro i ⟨out,ii⟩ hi ⟨rfl,hlen,hm⟩;dsimp only at hlen hm ⊢;refine .inl ?_;have hr:l[i]? = some l[i]:=bh hi;generalize l[i]=r at hr;have hkeep:¬ (r.b≠k/\iE (Ek l rev) k r.b/\iE (Ek l rev) r.b k)->∀ x,x∈out↔x=k∨(∃ r∈l.take (i+1),r.b=x)/\iE (Ek l rev) k x/\iE (Ek l rev) x k:=fun hn x=>by
    rw [hm,bI hr];constructor
    ·rintro (h | ⟨⟨r',h1,h2⟩,h3⟩)
     ·exact .inl h
     ·exact .inr ⟨⟨r',mb _ h1,h2⟩,h3⟩
    ·rintro (h | ⟨⟨r',h1,h2⟩,h3⟩)
     ·exact .inl h
     ·rcases cM.1 h1 with h1 | h1
      ·exact .inr ⟨⟨r',h1,h2⟩,h3⟩
      ·rw [cp] at h1;subst h1 h2;by_cases hx:r'.b=k
       ·exact .inl hx
       ·exact absurd ⟨hx,h3⟩ hn
   have hadd:iE (Ek l rev) k r.b->iE (Ek l rev) r.b k->∀ x,x∈out++[r.b]↔x=k∨(∃ r∈l.take (i+1),r.b=x)/\iE (Ek l rev) k x/\iE (Ek l rev) x k:=fun ha hb x=>by
    rw [cM,hm,bI hr,cp];constructor
    ·rintro ((h | ⟨⟨r',h1,h2⟩,h3⟩) | rfl)
     ·exact .inl h
     ·exact .inr ⟨⟨r',mb _ h1,h2⟩,h3⟩
     ·exact .inr ⟨⟨r,by simp,rfl⟩,ha,hb⟩
    ·rintro (h | ⟨⟨r',h1,h2⟩,h3⟩)
     ·exact .inl (.inl h)
     ·rcases cM.1 h1 with h1 | h1
      ·exact .inl (.inr ⟨⟨r',h1,h2⟩,h3⟩)
      ·rw [cp] at h1;subst h1 h2; exact .inr rfl
   unfold pU pT sj;rw [dlt hi,cond_true,aV,hr,al,cy (by omega)];show ∃ s',cond (!(fa r.b k)) _ _=_/\_;by_cases hx:r.b=k
   ·rw [fc.2 hx];exact⟨_,rfl,rfl,by dsimp only; omega,hkeep fun h=>h.1 hx⟩
   ·rw [xQ.2 hx];simp only [mL,cond_true,al];cases ht:(cJ aB r.b tm).getD false with
    | false =>
     refine⟨_,rfl,rfl,by dsimp only; omega,hkeep fun h=>?_⟩;have:=(htm r.b).2 (h.2.1.plus (fun e=>hx e.symm));rw [ht] at this; cases this
    | true =>
     have hp:=(htm r.b).1 ht;obtain⟨m2,e2,h2⟩:=HK hl (qQ O hp.star);rw [cond_true,e2,al];cases ht2:(cJ aB k m2).getD false with
     | false =>
      refine⟨_,rfl,rfl,by dsimp only; omega,hkeep fun h=>?_⟩;have:=(h2 k).2 (h.2.2.plus hx);rw [ht2] at this; cases this
     | true =>
      have hp2:=(h2 k).1 ht2;rw [cond_true,gd,eZ (by simp only [mM]; omega),cond_true];exact⟨_,rfl,rfl,by simp only [br,mM]; omega,hadd hp.star hp2.star⟩
  ·rintro⟨out,ii⟩ ⟨rfl,hlen,hm⟩;dsimp only at hlen hm ⊢;refine⟨out,by unfold pU; rw [bZ]; rfl,by omega,fun x=>(hm x).trans ?_⟩;rw [f9];constructor
   ·rintro (rfl | ⟨_,h⟩)
    ·exact⟨.refl,.refl⟩
    ·exact h
   ·intro h;by_cases hx:x=k
    ·exact .inl hx
    ·obtain⟨r,hr,e⟩:=cL.1 (FY (qQ O h.1));exact .inr ⟨⟨r,hr,e⟩,h⟩
 ·obtain⟨m,e,hm⟩:=yr (l:=out) (by unfold Rm; omega);rw [e];exact aq ⟨hm.asc,fun x=>(hm.mem x).trans (h2 x)⟩
end
theorem Ud.len {l:List ar} (hl:LE l) {rev:Int} {k:ae} (O:wG l rev k=true) {m:List ae} (h:Ud l rev k m):m.length<=1000:=by
 have hn:m.Nodup:=List.Pairwise.imp (fun {a b} h=>uh h) h.1;have:=kS (m:=l.map ar.b) hn fun x hx=>FY (qQ O ((h.2 x).1 hx).1);rw [iq] at this;exact du this hl.len
def IS (l:List ar) (g:List ae) (m:ae):List dD:=((AG l m).filter fun x=>!(g.any fun y=>fa x y)).map fun x=>⟨m,x⟩
def dH (l:List ar) (g h:List ae):List dD:=h.flatMap (IS l g)
theorem Ma {l:List ar} (hl:LE l) (g:List ae) (m:ae):(IS l g m).length<=1000:=by
 unfold IS;rw [iq];exact du (Fi _ _) (hl.rd m)
theorem wR {l:List ar} (hl:LE l) (g:List ae):∀ h:List ae,(dH l g h).length<=h.length*1000
 | []=>cT _
 | m::h=>by
  have:=wR hl g h;have:=Ma hl g m;unfold dH at *;rw [wD,br,dx]; omega
theorem KL {l:List ar} (hl:LE l) {g:List ae} (hg:g.length<=2000):qE l g=some (dH l g g):=by
 unfold qE ph;refine jJ (eh (xs:=g) (fun k=>(dH l g (g.take k),(k:Int))) rfl (r:=dH l g g) (fun k m hm=>?_) ?_) rfl
 ·have O:=aU hm;have hc:=wR hl g (g.take k);have hct:(g.take k).length<=2000:=by rw [gQ]; omega
  unfold l7 pi;dsimp only;rw [iU hm,cond_true,aV,hm,al,vW hl.rm,al,cy (by omega)];have hin:loop (fun s:List dD×Int=>jF g m (bj l m) s.1 s.2) (dH l g (g.take k),0)=some (dH l g (g.take k)++IS l g m):=by
   have hrl:=hl.rd m;refine eh (xs:=AG l m) (fun i=>(dH l g (g.take k)++(((AG l m).take i).filter fun x=>!(g.any fun y=>fa x y)).map (fun x=>(⟨m,x⟩:dD)),(i:Int))) (by simp) (fun i x hx=>?_) ?_
   ·have hi:=aU hx;unfold jF l6;dsimp only;rw [show (bj l m).1.v=AG l m from rfl,iU hx,cond_true,aV,hx,al,EV (by unfold Rm; omega),al,cy (by omega),bI hx,ux,wF];have hpl:((((AG l m).take i).filter fun x=>!(g.any fun y=>fa x y)).map (fun x=>(⟨m,x⟩:dD))).length<=1000:=by
     rw [iq];exact du (BL _ _ _) hrl
    cases hh:g.any fun y=>fa x y with
    | true=>simp [hh]
    | false =>
     simp only [mL,cond_true];rw [gd,eZ (by simp only [br,mM]; omega),cond_true];simp [hh]
   ·unfold jF;dsimp only;rw [show (bj l m).1.v=AG l m from rfl,bZ,f9]; rfl
  rw [hin,al,bI hm];unfold dH;rw [yw,List.flatMap_singleton]
 ·unfold l7;dsimp only;rw [bZ,f9]; rfl
end
section
open Go.Lib hiding intOf
variable {ls:List ByteArray} {r:aL} {x:dz}
noncomputable def rk (l:List aL) (n:Nat):ae:=⟨if (aW l)[n]? = some true then 32 else 31,cV n⟩
section
variable {l:List aL} {n a b:Nat}
theorem Ar (ha:a<65536) (hb:b<65536) (h:cV (a:Int)=cV b):a=b:=by
 have h1:=tW ha;rw [h,tW hb] at h1;omega
theorem uK (ha:a<100) (hb:b<100) (h:rk l a=rk l b):a=b:=Ar (by omega) (by omega) (congrArg ae.x h)
theorem H3 (h:n<l.length):rk l n=H5 l[n] n:=by
 unfold rk H5;rw [lj h];cases l[n].q <;> simp
theorem Bs (h:n<l.length) (hl:l.length<=100):kY l n=some (rk l n):=by rw [H3 h]; exact Lf h (by omega)
theorem rV:(rk l n).k=31/\(aW l)[n]? ≠ some true∨(rk l n).k=32/\(aW l)[n]? = some true:=by
 unfold rk;by_cases h:(aW l)[n]? = some true
 ·exact .inr ⟨by simp [h],h⟩
 ·exact .inl ⟨by simp [h],h⟩
theorem HU (h:n<100):CU 99 (cV (n:Int)).toList=n:=by
 unfold CU;rw [tG,oJ,Cw (by omega),if_pos (by omega)]
theorem AR (h:n<100):AC (rk l n)=n:=by
 unfold AC;rw [if_pos (by rcases rV (l:=l) (n:=n) with⟨h,_⟩|⟨h,_⟩ <;> rw [h] <;> decide)];exact HU h
theorem L9 (h:n<100):AC (bO n)=n:=by
 unfold AC;rw [if_pos ⟨by show (30:Int)<=30; omega,by show (30:Int)<=32; omega⟩];exact HU h
theorem oI (k:ae):cO k=some (decide (k.k=1)||(decide (k.k=2)||decide (k.k=30))):=by
 unfold cO kX;by_cases h1:k.k=1
 ·simp [h1]
 ·by_cases h2:k.k=2
  ·simp [h2]
  ·by_cases h3:k.k=30
   ·simp [h3]
   ·have hb:∀ n:Int,k.k≠n->(k.k==n)=false:=fun n h=>by simpa using h
    rw [hb 1 h1,hb 2 h2,hb 30 h3];simp [h1,h2,h3]
theorem oW:cO (rk l n)=some false:=by
 rw [oI];rcases rV (l:=l) (n:=n) with⟨h,_⟩|⟨h,_⟩ <;> rw [h] <;> rfl
theorem mS:cO (bO n)=some true:=by rw [oI]; rfl
theorem Kg:lY (rk l n)=decide ((aW l)[n]? = some true):=by
 unfold lY;rcases rV (l:=l) (n:=n) with⟨h,k⟩|⟨h,k⟩
 ·rw [h,decide_eq_false k]; rfl
 ·rw [h,decide_eq_true k]; rfl
theorem KI:lY (bO n)=false:=rfl
theorem rI:bO a≠rk l b:=fun h=>by
 have h30:(30:Int)=(rk l b).k:=congrArg ae.k h;rcases rV (l:=l) (n:=b) with⟨h,_⟩|⟨h,_⟩ <;> rw [h] at h30 <;> omega
theorem E3 {k:ae} (h:30<=k.k/\k.k<=32):cP k=some (decide (0<=AC k)):=by
 unfold cP gl;rw [decide_eq_true h.1,decide_eq_true h.2,cond_true,cond_true,rE];rfl
theorem C8 (h:n<100):cP (rk l n)=some true:=by
 rw [E3 (by rcases rV (l:=l) (n:=n) with⟨h,_⟩|⟨h,_⟩ <;> rw [h] <;> decide),AR h,decide_eq_true (by omega)]
theorem vC (h:n<100):cP (bO n)=some true:=by
 rw [E3 (k:=bO n) ⟨by show (30:Int)<=30; omega,by show (30:Int)<=32; omega⟩,L9 h,decide_eq_true (by omega)]
def og (l:List aL) (k:ae):Prop:=(∃ c,c<10/\k=bO c)∨∃ n,n<l.length/\k=rk l n
theorem og.valid (hl:l.length<=8) {k:ae} (h:og l k):cP k=some true:=by
 rcases h with⟨c,hc,rfl⟩|⟨n,hn,rfl⟩
 ·exact vC (by omega)
 ·exact C8 (by omega)
theorem xe (h:n<l.length):B5 (aW l) n<=l.length:=by
 unfold B5;split
 ·have:=(IR (rs:=aW l) (n:=n) (by unfold aW; rwa [iq])).2.2;unfold aW at this ⊢;rwa [iq] at this
 ·omega
noncomputable def uz (x:dz) (ls:List ByteArray):Int:=if x.v1=true/\(ls.length=0∨iQ (ls.getD (ls.length-1) ⟨#[]⟩) % 2=0) then x.d1 else x.N
noncomputable def oh (l:List aL) (x:dz) (ls:List ByteArray):ae:=if x.w=true then bO (uz x ls).toNat else rk l (uz x ls).toNat
theorem oB (C:bk l) (h:l[n]? = some r) {k:Nat} (hx:r.c[k]? = some x) (ls:List ByteArray) :
  0<=uz x ls/\((x.w=true/\∃ c,c<10/\(uz x ls)=(c:Nat)/\oh l x ls=bO c)∨(x.w=false/\∃ j,j<B5 (aW l) n/\(uz x ls)=(j:Nat)/\oh l x ls=rk l j)):=by
 have U:=(C.each n r h).each k x hx;have h0:0<=uz x ls:=by unfold uz; split; exact U.low2; exact U.low
 refine⟨h0,?_⟩;cases hc:x.w with
 | true =>
  have:uz x ls<4:=by unfold uz; split; exact U.cell2 hc; exact U.cell hc
  exact .inl ⟨rfl,(uz x ls).toNat,by omega,by omega,by unfold oh; rw [if_pos hc]⟩
 | false =>
  have:uz x ls<B5 (aW l) n:=by unfold uz; split; exact U.rule2 hc; exact U.rule hc
  exact .inr ⟨rfl,(uz x ls).toNat,by omega,by omega,by unfold oh; rw [if_neg (by rw [hc]; simp)]⟩
theorem Ie (C:bk l) (h:l[n]? = some r) (hn:r.c.length<=ls.length) :
  iZ l (rk l n) ls=some ⟨true,cV (w7 r (ls.take r.c.length)),⟨0,⟨#[]⟩⟩⟩:=by
 have hlt:=aU h;have h8:=C.high;have h3:=(C.each n r h).asks;have hC:0<=r.C/\r.C<=65535:=by
  have hr:=C.each n r h;cases hg:r.q with
  | true=>have:=hr.ring hg; omega
  | false=>have:=hr.plain hg; omega
 obtain⟨m,hm,hm2⟩:=yD C h (ls:=ls.take r.c.length) (by rw [gQ]; omega);unfold iZ;rw [rE,al,AR (by omega),decide_eq_false (by omega),cond_false,decide_eq_false (by omega),cond_false,Bs hlt (by omega),al];rw [show (!((rk l n).k==(rk l n).k&&(rk l n).x.toList==(rk l n).x.toList))=false by simp,cond_false,aV,h,al,decide_eq_true (by omega),cond_true];rw [vm (by omega),al,Ms hC (by rw [gQ]; omega),al,hm,rf (by omega),al]
theorem Jt (C:bk l) (h:l[n]? = some r) (hx:r.c[ls.length]? = some x) :
  iZ l (rk l n) ls=some ⟨false,⟨#[]⟩,oh l x ls⟩:=by
 have hlt:=aU h;have hla:=aU hx;have h8:=C.high;have h3:=(C.each n r h).asks;have U:=(C.each n r h).each _ x hx;obtain⟨g0,hg⟩:=oB C h hx ls;have hll:=xe hlt;have j1:∀ z:Int,z=uz x ls->mm l x z=some ⟨false,⟨#[]⟩,oh l x ls⟩:=by
  rintro _ rfl;unfold mm;rcases hg with⟨hc,c,h4,e1,e2⟩|⟨hc,j,h4,e1,e2⟩
  ·rw [hc,cond_true,e1,vU (by omega),al,e2]
  ·rw [hc,cond_false,e1,Bs (by omega) (by omega),al,e2]
 unfold iZ;rw [rE,al,AR (by omega),decide_eq_false (by omega),cond_false,decide_eq_false (by omega),cond_false,Bs hlt (by omega),al];rw [show (!((rk l n).k==(rk l n).k&&(rk l n).x.toList==(rk l n).x.toList))=false by simp,cond_false,aV,h,al,decide_eq_false (by omega),cond_false,aV,hx,al];unfold mn;cases hp:x.v1 with
 | false=>exact j1 _ (by unfold uz; rw [if_neg (by rw [hp]; simp)])
 | true =>
  obtain⟨_,O⟩:=U.pick hp;rw [cond_true,show (((ls.length:Nat):Int)==0)=false from beq_eq_false_iff_ne.2 (by omega),cond_false];have hw:IntKind.i64.wrap ((ls.length:Int)-1)=((ls.length-1:Nat):Int):=by rw [ki (by omega) (by omega)]; omega
  have hg2:=bh (l:=ls) (i:=ls.length-1) (by omega);rw [hw,aV,hg2,al,Ih,al];have hv:=kh ls[ls.length-1];have hd:ls.getD (ls.length-1) ⟨#[]⟩=ls[ls.length-1]:=by rw [NU,hg2]; rfl
  have ht:Int.tmod (iQ ls[ls.length-1]) 2=iQ ls[ls.length-1] % 2:=Int.tmod_eq_emod_of_nonneg (by omega);by_cases hz:iQ ls[ls.length-1] % 2=0
  ·rw [ht,hz];exact j1 _ (by unfold uz; rw [if_pos ⟨hp,.inr (by rw [hd]; exact hz)⟩])
  ·rw [ht,show (iQ ls[ls.length-1] % 2==0)=false by simpa using hz];exact j1 _ (by unfold uz; rw [if_neg (by rw [hd]; rintro⟨_,h | h⟩; exact absurd h (by omega); exact hz h)])
theorem ND (k:ae) (O:k.k=31∨k.k=32) (ls:List ByteArray):fZ l k ls=iZ l k ls:=by
 unfold fZ;rcases O with h | h
 ·rw [h]; cases iZ l k ls <;> rfl
 ·rw [h]; cases iZ l k ls <;> rfl
theorem vh:(rk l n).k=31∨(rk l n).k=32:=by rcases rV (l:=l) (n:=n) with⟨h,_⟩|⟨h,_⟩; exact .inl h; exact .inr h
theorem E2 (C:bk l) (h:l[n]? = some r) (hn:r.c.length<=ls.length) :
  fZ l (rk l n) ls=some ⟨true,cV (w7 r (ls.take r.c.length)),⟨0,⟨#[]⟩⟩⟩:=(ND _ vh _).trans (Ie C h hn)
theorem If (C:bk l) (h:l[n]? = some r) (hx:r.c[ls.length]? = some x) :
  fZ l (rk l n) ls=some ⟨false,⟨#[]⟩,oh l x ls⟩:=(ND _ vh _).trans (Jt C h hx)
end
end
section
open Go.Lib hiding intOf
variable {b j n:Nat}
section
variable {rs:List Bool}
theorem J6:∀ {a j:Nat},ZZ rs a<=j->j<a->rs[j]? = some true
 | 0,_,_,h=>absurd h (by omega)
 | a+1,j,h1,h2=>by
  rw [B7] at h1;split at h1
  ·rename_i h;rcases e9 j a with h3 | h3
   ·exact J6 h1 h3
   ·have:j=a:=by omega
    rw [this]; exact h
  ·omega
theorem ML {a:Nat}:∀ {j:Nat},a<=j->(∀ i,a<=i->i<j->rs[i]? = some true)->ZZ rs j<=a
 | 0,h,_=>by have:=EJ rs 0; omega
 | j+1,h,hr=>by
  rcases e9 j a with h3 | h3
  ·have:=EJ rs (j+1); omega
  ·rw [B7,if_pos (hr j h3 (by omega))];exact ML h3 fun i h1 h2=>hr i h1 (by omega)
theorem Hz:∀ {f b j:Nat},b<=j->j<Hy rs f b->rs[j]? = some true
 | 0,b,j,h1,h2=>by have:Hy rs 0 b=b:=rfl; omega
 | f+1,b,j,h1,h2=>by
  rw [CJ] at h2;split at h2
  ·rename_i h;rcases Nat.eq_or_lt_of_le h1 with h3 | h3
   ·rw [<- h3]; exact h
   ·exact Hz h3 h2
  ·omega
def qM (rs:List Bool) (n:Nat):Nat:=(blk rs n).1
theorem vj (h:rs[n]? ≠ some true):qM rs n=n:=by unfold qM blk; rw [if_neg h]
theorem zZ (h:rs[n]? = some true):qM rs n=ZZ rs n:=by unfold qM blk; rw [if_pos h]
theorem Ng (n:Nat):qM rs n<=n:=by
 by_cases h:rs[n]? = some true
 ·rw [zZ h]; exact EJ rs n
 ·rw [vj h]; omega
theorem GR (h:rs[n]? = some true) (h1:ZZ rs n<=j) (h2:j<B5 rs n):rs[j]? = some true:=by
 unfold B5 at h2;rw [if_pos h] at h2;unfold blk at h2;rw [if_pos h] at h2;rcases Gq j n with h3 | h3 | h3
 ·exact J6 h1 h3
 ·rw [h3]; exact h
 ·exact Hz h3 h2
theorem yN (h:rs[n]? = some true) (hj:j<B5 rs n) (hp:rs[j]? ≠ some true):j<qM rs n:=by
 rw [zZ h];rcases e9 j (ZZ rs n) with h3 | h3
 ·exact h3
 ·exact absurd (GR h h3 hj) hp
theorem AQ (h:rs[n]? = some true) (hj:j<B5 rs n) (hp:rs[j]? = some true):qM rs j<=qM rs n:=by
 rw [zZ h,zZ hp];rcases e9 j (ZZ rs n) with h3 | h3
 ·have:=EJ rs j; omega
 ·exact ML h3 fun i h1 h2=>GR h h1 (by omega)
theorem AD (h:rs[n]? ≠ some true) (hj:j<B5 rs n):qM rs j<qM rs n:=by
 unfold B5 at hj;rw [if_neg h] at hj;rw [vj h];have:=Ng (rs:=rs) j;omega
end
def zh (p:Nat->Bool):Nat->Nat
 | 0=>0
 | k+1=>if p k then 2 ^ k+zh p k else zh p k
theorem Ci (p:Nat->Bool):∀ k,zh p k<2 ^ k
 | 0=>by simp [zh]
 | k+1=>by
  have:=Ci p k;have h2:2 ^ (k+1)=2 ^ k+2 ^ k:=by rw [A5]; omega
  unfold zh;split <;> omega
theorem Cj (p:Nat->Bool):∀ k b,(zh p k).testBit b=(decide (b<k)&&p b)
 | 0,b=>by simp [zh]
 | k+1,b=>by
  have ih:=Cj p k b;have hlt:=Ci p k;unfold zh;rcases Gq b k with h | h | h
  ·rw [decide_eq_true (by omega),t6];rw [decide_eq_true h,t6] at ih;split
   ·rw [Nat.testBit_two_pow_add_gt h]; exact ih
   ·exact ih
  ·subst h;rw [decide_eq_true (by omega),t6];split
   ·rename_i hp;rw [Nat.testBit_two_pow_add_eq,DE hlt,hp]; rfl
   ·rename_i hp;rw [DE hlt];simpa using hp
  ·rw [decide_eq_false (by omega),Bool.false_and];have h2:2 ^ (k+1)=2 ^ k+2 ^ k:=by rw [A5]; omega
   have h3:2 ^ (k+1)<=2 ^ b:=DC (by omega) (by omega);split <;> exact DE (by omega)
section
variable (l:List aL) (inp:ae->ByteArray)
noncomputable def nH (V:Nat->ByteArray) (x:dz) (ls:List ByteArray):ByteArray:=if x.w=true then inp (oh l x ls) else V (uz x ls).toNat
noncomputable def eW (V:Nat->ByteArray) (r:aL):Nat->List ByteArray
 | 0=>[]
 | k+1=>match r.c[k]? with
  | none=>eW V r k
  | some x=>eW V r k++[nH l inp V x (eW V r k)]
inductive RB (V:Nat->ByteArray):Nat->Nat->Prop
 | own {n b:Nat} {r:aL}:l[n]? = some r->r.C.toNat.testBit b=true->RB V n b
 | ask {n b:Nat} {r:aL} {x:dz}:l[n]? = some r->x∈r.c->(x.w=true∨(aW l)[x.N.toNat]? ≠ some true)->(iQ (nH l inp V x [])).toNat.testBit b=true->RB V n b
 | ring {n b:Nat} {r:aL} {x:dz}:l[n]? = some r->x∈r.c->x.w=false->(aW l)[x.N.toNat]? = some true->RB V x.N.toNat b->RB V n b
open Classical in
noncomputable def Lw (V:Nat->ByteArray) (n:Nat):ByteArray:=match l[n]? with
 | none=>⟨#[]⟩
 | some r=>if r.q=true then cV (zh (fun b=>decide (RB l inp V n b)) 16:Nat) else cV (w7 r (eW l inp V r r.c.length))
noncomputable def Wd:Nat->Nat->ByteArray
 | 0=>fun _=>⟨#[]⟩
 | k+1=>fun n=>if qM (aW l) n<k then Wd k n else Lw l inp (Wd k) n
noncomputable def Vd (n:Nat):ByteArray:=Wd l inp (qM (aW l) n+1) n
theorem PA:∀ {k n:Nat},qM (aW l) n<k->Wd l inp k n=Vd l inp n
 | 0,n,h=>absurd h (by omega)
 | k+1,n,h=>by
  rcases e9 (qM (aW l) n) k with h1 | h1
  ·show (if qM (aW l) n<k then Wd l inp k n else _)=_;rw [if_pos h1];exact PA h1
  ·obtain rfl:k=qM (aW l) n:=by omega
   rfl
variable {l inp}
theorem vf (C:bk l) {r:aL} (h:l[n]? = some r) (hr:r.q=true) {k:Nat} {x:dz} (hx:r.c[k]? = some x) (ls:List ByteArray):uz x ls=x.N:=by
 have:=(C.each n r h).each k x hx;unfold uz;rw [if_neg];rintro⟨hp,_⟩;have:=(this.pick hp).1;rw [hr] at this; cases this
theorem ji {r:aL} (h:l[n]? = some r):(aW l)[n]? = some r.q:=by
 have:=aU h;rw [lj this];rw [bh this] at h;rw [bJ h]
theorem Cf {V V':Nat->ByteArray} (C:bk l) {n:Nat} {r:aL} (h:l[n]? = some r) (hr:r.q=false) (hV:∀ j,qM (aW l) j<qM (aW l) n->V j=V' j):∀ k,eW l inp V r k=eW l inp V' r k
 | 0=>rfl
 | k+1=>by
  have ih:=Cf C h hr hV k;unfold eW;cases hx:r.c[k]? with
  | none=>exact ih
  | some x =>
   dsimp only;rw [ih];congr 2;unfold nH;obtain⟨_,⟨hc,_⟩|⟨hc,j,hj,e1,_⟩⟩:=oB C h hx (eW l inp V' r k)
   ·rw [if_pos hc,if_pos hc]
   ·rw [if_neg (by rw [hc]; simp),if_neg (by rw [hc]; simp),e1];exact hV _ (AD (by rw [ji h,hr]; simp) hj)
theorem GI {V V':Nat->ByteArray} (C:bk l) {n0:Nat} (hV:∀ j,qM (aW l) j<qM (aW l) n0->V j=V' j) (h:RB l inp V n b):(aW l)[n]? = some true->qM (aW l) n<=qM (aW l) n0->RB l inp V' n b:=by
 induction h with
 | own h1 h2=>exact fun _ _=>.own h1 h2
 | @ask n b r x h1 h2 h3 h4 =>
  intro hr hn;obtain⟨k,O⟩:=dt.1 h2;have hrr:r.q=true:=by rw [ji h1] at hr; exact bJ hr
  have e:=vf C h1 hrr O [];refine .ask h1 h2 h3 ?_;rw [<- h4];congr 3;unfold nH;obtain⟨_,⟨hc,_⟩|⟨hc,j,hj,e1,_⟩⟩:=oB C h1 O []
  ·rw [if_pos hc,if_pos hc]
  ·rw [if_neg (by rw [hc]; simp),if_neg (by rw [hc]; simp),e1];have e2:x.N.toNat=j:=by omega
   rw [hc,e2] at h3;have hp:(aW l)[j]? ≠ some true:=by rcases h3 with h3 | h3; cases h3; exact h3
   have:=yN hr hj hp;exact (hV _ (by rw [show ((j:Nat):Int).toNat=j by omega,vj hp]; omega)).symm
 | @ring n b r x h1 h2 h3 h4 h5 ih =>
  intro hr hn;obtain⟨k,O⟩:=dt.1 h2;have hrr:r.q=true:=by rw [ji h1] at hr; exact bJ hr
  have e:=vf C h1 hrr O [];refine .ring h1 h2 h3 h4 (ih h4 ?_);obtain⟨_,⟨hc,_⟩|⟨hc,j,hj,e1,_⟩⟩:=oB C h1 O []
  ·rw [h3] at hc; cases hc
  ·have e2:x.N.toNat=j:=by omega
   rw [e2] at h4 ⊢;have:=AQ hr hj h4;omega
theorem JB (C:bk l) (hn:n<l.length):Vd l inp n=Lw l inp (Vd l inp) n:=by
 have hg:=bh hn;have e:Vd l inp n=Lw l inp (Wd l inp (qM (aW l) n)) n:=by
  show (if qM (aW l) n<qM (aW l) n then _ else _)=_;rw [if_neg (by omega)]
 rw [e];have hV:∀ j,qM (aW l) j<qM (aW l) n->Wd l inp (qM (aW l) n) j=Vd l inp j:=fun j hj=>PA l inp hj;unfold Lw;rw [hg];dsimp only;cases hr:l[n].q with
 | false=>rw [if_neg (by simp),if_neg (by simp),Cf C hg hr hV]
 | true =>
  rw [if_pos rfl,if_pos rfl];have hr2:(aW l)[n]? = some true:=by rw [ji hg,hr]
  have:∀ b,RB l inp (Wd l inp (qM (aW l) n)) n b↔RB l inp (Vd l inp) n b:=fun b =>
   ⟨fun h=>GI C hV h hr2 (bx _),fun h=>GI C (fun j hj=>(hV j hj).symm) h hr2 (bx _)⟩
  congr 3;funext b;rw [decide_eq_decide];exact this b
end
structure GC (l:List aL) (inp:ae->ByteArray) (V:Nat->ByteArray):Prop where
 plain:∀ n r,l[n]? = some r->r.q=false->V n=cV (w7 r (eW l inp V r r.c.length))
 ring:∀ n r,l[n]? = some r->r.q=true->∃ u:Nat,V n=cV u/\u<65536/\∀ b,u.testBit b=true↔RB l inp V n b
theorem Dl {u:Nat} (h:u<65536) (ht:u.testBit b=true):b<16:=by
 rcases e9 b 16 with h1 | h1
 ·exact h1
 ·have:2 ^ 16<=2 ^ b:=DC (by omega) h1;rw [DE (by have:2 ^ 16=65536:=rfl; omega)] at ht;cases ht
theorem RG {l:List aL} {inp:ae->ByteArray} {V:Nat->ByteArray} (C:bk l) (h:RB l inp V n b):b<16:=by
 induction h with
 | own h1 h2 =>
  rename_i n b r;have hr:=C.each _ _ h1;refine Dl ?_ h2;cases hg:r.q with
  | true=>have:=hr.ring hg; omega
  | false=>have:=hr.plain hg; omega
 | ask h1 h2 h3 h4 =>
  refine Dl ?_ h4;rename_i x;have:=kh (nH l inp V x []);omega
 | ring _ _ _ _ _ ih=>exact ih
theorem An {l:List aL} (inp:ae->ByteArray) (C:bk l):GC l inp (Vd l inp):=by
 refine⟨fun n r h hr=>?_,fun n r h hr=>?_⟩
 ·rw [JB C (aU h)];unfold Lw;rw [h];dsimp only;rw [if_neg (by rw [hr]; simp)]
 ·classical
  rw [JB C (aU h)];unfold Lw;rw [h];dsimp only;rw [if_pos hr];refine⟨_,rfl,Ci _ 16,fun b=>?_⟩;rw [Cj,lq,decide_eq_true_eq,decide_eq_true_eq];exact⟨fun h=>h.2,fun h=>⟨RG C h,h⟩⟩
end
section
open Go.Lib hiding intOf
variable {a:Nat->Nat} {idx:List Nat} {list:List ae} {m memo memo':List (ae×ByteArray)} {n0:Nat}
theorem MB {a b:ae} (h:a≠b):aB a b=false:=by rw [<- Bool.not_eq_true]; exact fun e=>h ((dI a b).1 e)
theorem HG (a:ae):aB a a=true:=(dI a a).2 rfl
theorem iz {ν:Type} (k:ae) (v:ν) (m:List (ae×ν)):cJ aB k (ew aB k v m)=some v:=by rw [lZ dI,HG]; rfl
theorem mZ {ν:Type} {k k':ae} (h:k≠k') (v:ν) (m:List (ae×ν)):cJ aB k (ew aB k' v m)=cJ aB k m:=by rw [lZ dI,MB h]; rfl
def mX (b:ap) (k:ae):be:=match b.i.find? (fun x=>fa x.b k) with | some x=>x | none=>⟨k,⟨#[]⟩,0⟩
theorem EU {b:ap} (hb:Rm b.i.length) (k:ae):rx b k=some (mX b k):=by
 unfold Rm at hb;have key:loop (fun s:Int=>iC b k s) 0=some (match b.i.find? (fun x=>fa x.b k) with | some x=>Fl.out x | none=>Fl.go ()):=by
  rcases vN (xs:=b.i) (B:=fun s:Int=>iC b k s) (fun x=>fa x.b k) (fun i=>(i:Int)) (s0:=0) rfl (y:=fun _ x=>Fl.out x) (n:=Fl.go ()) (fun i x hx hp=>by
   unfold iC;rw [iU hx,cond_true,aV,hx,al,cy (by have:=aU hx; omega)];show cond (fa x.b k) _ _=_;rw [hp]; rfl) (fun i x hx hp=>by
   unfold iC;rw [iU hx,cond_true,aV,hx,al];show cond (fa x.b k) _ _=_;rw [hp]; rfl) (by unfold iC; rw [bZ]; rfl) with⟨i,x,h1,h2,h3,h4⟩|⟨h1,h2⟩
  ·rw [h4,JW (p:=fun x=>fa x.b k) h1 h2 h3]
  ·rw [h2,DK.2 fun x hx=>by rw [h1 x hx]; simp]
 unfold rx;rw [key];unfold mX;cases b.i.find? (fun x=>fa x.b k) <;> rfl
theorem Ht {b:ap} (hb:Rm b.i.length) (k:ae):pR b k=some (mX b k).t:=by
 unfold pR;rw [EU hb]; rfl
theorem FO:cV ((0:Nat):Int)=⟨#[48]⟩:=by
 unfold cV;rw [oJ];unfold decDigits;simp
def lV (m m':List (ae×ByteArray)):Prop:=∀ k v,cJ aB k m=some v->cJ aB k m'=some v
theorem lV.refl (m:List (ae×ByteArray)):lV m m:=fun _ _ h=>h
theorem lV.trans {a b c:List (ae×ByteArray)} (h:lV a b) (k:lV b c):lV a c:=fun x v e=>k x v (h x v e)
theorem lV.has {a b:List (ae×ByteArray)} (h:lV a b) {k:ae} (e:cJ aB k a≠none):cJ aB k b≠none:=by
 cases O:cJ aB k a with
 | none=>exact absurd O e
 | some v=>rw [h k v O]; simp
structure wK (l:List aL) (V:Nat->ByteArray) (b:ap) (s:aA):Prop where
 rules:s.g=l
 base:s.d=b
 memo:∀ n,n<l.length->∀ v,cJ aB (rk l n) s.f=some v->v=V n
 cell:∀ c,cJ aB (bO c) s.f=none
section
variable {l:List aL} {V:Nat->ByteArray} {b:ap} {inp:ae->ByteArray}
theorem wK.put {s:aA} (h:wK l V b s) {n:Nat} (hn:n<l.length) (hl:l.length<=8):wK l V b ⟨s.g,s.d,ew aB (rk l n) (V n) s.f,s.m⟩/\lV s.f (ew aB (rk l n) (V n) s.f):=by
 refine⟨⟨h.rules,h.base,fun m hm v e=>?_,fun c=>?_⟩,fun k v e=>?_⟩
 ·by_cases O:m=n
  ·subst O;rw [iz] at e;exact (bJ e).symm
  ·rw [mZ (fun e=>O (uK (by omega) (by omega) e))] at e;exact h.memo m hm v e
 ·rw [mZ rI];exact h.cell c
 ·by_cases O:k=rk l n
  ·subst O;rw [iz,h.memo n hn v e]
  ·rw [mZ O,e]
def LJ (l:List aL) (x:dz):Prop:=x.w=true∨(aW l)[x.N.toNat]? ≠ some true
def yc (l:List aL) (V:Nat->ByteArray) (inp:ae->ByteArray) (memo0 memo:List (ae×ByteArray)) (idx:List Nat) (a:Nat->Nat) (x:dz) (v:ByteArray):Prop :=
 (LJ l x/\v=nH l inp V x [])∨(¬ LJ l x/\((cJ aB (rk l x.N.toNat) memo≠none/\v=V x.N.toNat)∨(x.N.toNat∈idx/\v=cV (a x.N.toNat:Nat)/\cJ aB (rk l x.N.toNat) memo0=none)))
theorem yc.mono {memo0:List (ae×ByteArray)} {idx':List Nat} {x:dz} {v:ByteArray} (h:yc l V inp memo0 memo idx a x v) (hg:lV memo memo') (hi:∀ i∈idx,i∈idx'):yc l V inp memo0 memo' idx' a x v:=by
 rcases h with h | ⟨h0,⟨h1,h2⟩|⟨h1,h2,h3⟩⟩
 ·exact .inl h
 ·exact .inr ⟨h0,.inl ⟨hg.has h1,h2⟩⟩
 ·exact .inr ⟨h0,.inr ⟨hi _ h1,h2,h3⟩⟩
def Vw (l:List aL) (V:Nat->ByteArray) (inp:ae->ByteArray) (memo:List (ae×ByteArray)) (a:Nat->Nat) (x:dz) (q:Nat):Prop :=
 (LJ l x/\(iQ (nH l inp V x [])).toNat.testBit q=true)∨(¬ LJ l x/\((cJ aB (rk l x.N.toNat) memo≠none/\RB l inp V x.N.toNat q)∨(a x.N.toNat).testBit q=true))
def Fb (l:List aL) (V:Nat->ByteArray) (inp:ae->ByteArray) (memo:List (ae×ByteArray)) (a:Nat->Nat) (i q:Nat):Prop:=∃ r,l[i]? = some r/\(r.C.toNat.testBit q=true∨∃ x∈r.c,Vw l V inp memo a x q)
theorem Fb.mono {a':Nat->Nat} {i q:Nat} (h:Fb l V inp memo a i q) (hg:lV memo memo') (ha:∀ j q,(a j).testBit q=true->(a' j).testBit q=true):Fb l V inp memo' a' i q:=by
 obtain⟨r,h1,h2 | ⟨x,h2,h3⟩⟩:=h
 ·exact⟨r,h1,.inl h2⟩
 ·refine⟨r,h1,.inr ⟨x,h2,?_⟩⟩;rcases h3 with h3 | ⟨h0,⟨h3,h4⟩ | h3⟩
  ·exact .inl h3
  ·exact .inr ⟨h0,.inl ⟨hg.has h3,h4⟩⟩
  ·exact .inr ⟨h0,.inr (ha _ _ h3)⟩
structure BD (l:List aL) (V:Nat->ByteArray) (inp:ae->ByteArray) (n0:Nat) (memo:List (ae×ByteArray)) (m:List (ae×ByteArray)) (list:List ae) (idx:List Nat) (a:Nat->Nat):Prop where
 eq:list=idx.map (rk l)
 nd:idx.Nodup
 ring:∀ i∈idx,i<l.length/\(aW l)[i]? = some true/\qM (aW l) i<=qM (aW l) n0
 head:n0∈idx
 get:∀ i,i<l.length->cJ aB (rk l i) m=if i∈idx then some (cV (a i:Nat)) else none
 zero:∀ i,i ∉ idx->a i=0
 lt:∀ i,a i<65536
 le:∀ i q,(a i).testBit q=true->RB l inp V i q
 up:∀ i∈idx,∀ q,(a i).testBit q=true->Fb l V inp memo a i q
theorem MS (hn:idx.Nodup) {N:Nat} (h:∀ i∈idx,i<N):idx.length<=N:=by
 have:=kS hn (m:=List.range N) fun x hx=>A1.2 (h x hx);rwa [List.length_range] at this
theorem BD.len (h:BD l V inp n0 memo m list idx a):list.length=idx.length/\idx.length<=l.length :=
 ⟨by rw [h.eq,iq],MS h.nd fun i hi=>(h.ring i hi).1⟩
theorem BD.grow (h:BD l V inp n0 memo m list idx a) (hg:lV memo memo'):BD l V inp n0 memo' m list idx a :=
 ⟨h.eq,h.nd,h.ring,h.head,h.get,h.zero,h.lt,h.le,fun i hi q hq=>(h.up i hi q hq).mono hg fun _ _ e=>e⟩
theorem BD.add (h:BD l V inp n0 memo m list idx a) (hl:l.length<=8) {j:Nat} (hj:j<l.length) (hr:(aW l)[j]? = some true) (O:qM (aW l) j<=qM (aW l) n0) (hn:j ∉ idx) :
  BD l V inp n0 memo (ew aB (rk l j) ⟨#[48]⟩ m) (list++[rk l j]) (idx++[j]) a:=by
 refine⟨by rw [h.eq,wF]; rfl,?_,?_,mb _ h.head,?_,fun i hi=>h.zero i fun e=>hi (mb _ e),h.lt,h.le,?_⟩
 ·rw [List.nodup_append];exact⟨h.nd,by simp,fun x hx y hy=>by rw [cp.1 hy]; exact fun e=>hn (e▸hx)⟩
 ·intro i hi;rcases cM.1 hi with hi | hi
  ·exact h.ring i hi
  ·rw [cp.1 hi]; exact⟨hj,hr,O⟩
 ·intro i hi;by_cases e:i=j
  ·subst e;rw [iz,if_pos (ov _ (cp.2 rfl)),h.zero i hn,FO]
  ·rw [mZ (fun e2=>e (uK (by omega) (by omega) e2)),h.get i hi];have:(i∈idx++[j])↔i∈idx:=by rw [cM,cp]; exact⟨fun h=>h.resolve_right e,.inl⟩
   simp only [this]
 ·intro i hi q hq;rcases cM.1 hi with hi | hi
  ·exact h.up i hi q hq
  ·rw [cp.1 hi,h.zero j hn] at hq;simp at hq
end
end
section
open Go.Lib hiding intOf
theorem Hr:∀ (xs:List Nat) (c q:Nat),(xs.foldl (· ||| ·) c).testBit q=true↔c.testBit q=true∨∃ x∈xs,x.testBit q=true
 | [],c,q=>by simp
 | x::xs,c,q=>by
  rw [IA,Hr xs (c ||| x) q,Nat.testBit_or,wB];simp only [bC];constructor
  ·rintro ((h | h) | ⟨y,h1,h2⟩)
   ·exact .inl h
   ·exact .inr ⟨x,.inl rfl,h⟩
   ·exact .inr ⟨y,.inr h1,h2⟩
  ·rintro (h | ⟨y,rfl | h1,h2⟩)
   ·exact .inl (.inl h)
   ·exact .inl (.inr h2)
   ·exact .inr ⟨y,h1,h2⟩
section
variable {l:List aL} {V:Nat->ByteArray} {b:ap} {inp:ae->ByteArray}
theorem Hn (C:bk l) {n:Nat} {r:aL} (h:l[n]? = some r) (hr:r.q=true) (ls:List ByteArray) :
  ∃ m:Nat,w7 r ls=m/\m<65536/\∀ q,m.testBit q=true↔r.C.toNat.testBit q=true∨∃ v∈ls,(iQ v).toNat.testBit q=true:=by
 obtain⟨h1,h2,h3⟩:=(C.each n r h).ring hr;obtain⟨c,hc⟩:∃ c:Nat,r.C=c:=⟨r.C.toNat,by omega⟩;have e:ls.map iQ=(ls.map fun s=>(iQ s).toNat).map fun x:Nat=>(x:Int):=by
  rw [BB];refine Fk fun s _=>?_;have:=kh s;simp only [Function.comp];omega
 have:=FL (ls.map fun s=>(iQ s).toNat) c (fun x hx=>by
  obtain⟨s,_,rfl⟩:=cL.1 hx;have:=kh s;omega) (by omega)
 refine⟨(ls.map fun s=>(iQ s).toNat).foldl (· ||| ·) c,?_,this.2,fun q=>?_⟩
 ·unfold w7;dsimp only;rw [if_neg (by omega),if_neg (by omega),if_neg (by omega),if_neg (by omega),e,hc];exact this.1
 ·rw [Hr,hc];rw [show ((c:Nat):Int).toNat=c from gP c];refine or_congr Iff.rfl ⟨fun ⟨x,hx,hq⟩=>?_,fun ⟨v,hv,hq⟩=>⟨_,cL.2 ⟨v,hv,rfl⟩,hq⟩⟩;obtain⟨v,hv,rfl⟩:=cL.1 hx;exact⟨v,hv,hq⟩
def RF (l:List aL) (V:Nat->ByteArray) (b:ap) (inp:ae->ByteArray) (n0:Nat) (a:Nat->Nat) (i:Nat) (r:aL) (memo0:List (ae×ByteArray)) (idx0:List Nat) (ch0:Bool) (k:Nat) :
  (List (ae×ByteArray))×(List ae)×Bool×(List ByteArray)×(List aL)×Int×(List be)×(List ar)×(List (ae×ByteArray))×(List (ae×(List ae)))×Bool×ByteArray×Int×ByteArray->Prop
 | (m,list,ch,ws,rules,rev,inps,recs,memo,seen,d,v,ak,at_) =>
  ∃ (idx:List Nat),BD l V inp n0 memo m list idx a/\wK l V b (aA.mk rules (ap.mk rev inps recs) memo seen)/\lV memo0 memo/\idx0 <+: idx/\((ch=ch0/\idx=idx0)∨(ch=true/\idx0.length<idx.length)) /\
   ws.length=k/\(∀ q x,q<k->r.c[q]? = some x->∃ v,ws[q]? = some v/\yc l V inp memo0 memo idx a x v)/\fZ l (rk l i) ws=some ⟨d,v,⟨ak,at_⟩⟩
def LM (l:List aL) (V:Nat->ByteArray) (b:ap) (inp:ae->ByteArray) (n0:Nat) (a:Nat->Nat) (i:Nat) (r:aL) (memo0:List (ae×ByteArray)) (idx0:List Nat) (ch0:Bool) :
  (List (ae×ByteArray))×(List ae)×Bool×(List aL)×Int×(List be)×(List ar)×(List (ae×ByteArray))×(List (ae×(List ae)))×Bool×ByteArray×Int×ByteArray->Prop
 | (m,list,ch,rules,rev,inps,recs,memo,seen,d,v,ak,at_) =>
  ∃ (idx:List Nat) (ws:List ByteArray),BD l V inp n0 memo m list idx a/\wK l V b (aA.mk rules (ap.mk rev inps recs) memo seen)/\lV memo0 memo/\idx0 <+: idx/\((ch=ch0/\idx=idx0)∨(ch=true/\idx0.length<idx.length)) /\
   ws.length=r.c.length/\(∀ (q:Nat) (x:dz),r.c[q]? = some x->∃ (w:ByteArray),ws[q]? = some w/\yc l V inp memo0 memo idx a x w)/\v=cV (w7 r ws)
section
variable {n0:Nat} {a:Nat->Nat} {i p:Nat} {r:aL} {memo0:List (ae×ByteArray)} {idx0:List Nat} {ch0:Bool} (C:bk l) (hi:l[i]? = some r) (hr:r.q=true) (hp:idx0[p]? = some i)
include C hi
theorem x4 {ws:List ByteArray} (h:ws.length<=r.c.length):∃ t,fZ l (rk l i) ws=some t/\((ws.length=r.c.length/\t=⟨true,cV (w7 r ws),⟨0,⟨#[]⟩⟩⟩)∨∃ x,r.c[ws.length]? = some x/\t=⟨false,⟨#[]⟩,oh l x ws⟩):=by
 rcases e9 ws.length r.c.length with h1 | h1
 ·exact⟨_,If C hi (bh h1),.inr ⟨_,bh h1,rfl⟩⟩
 ·exact⟨_,E2 C hi h1,.inl ⟨by omega,by rw [sI (by omega)]⟩⟩
include hp
theorem Ti {k:Nat} {m:List (ae×ByteArray)} {list:List ae} {ch:Bool} {ws:List ByteArray} {rules:List aL} {rev:Int} {inps:List be} {recs:List ar} {memo:List (ae×ByteArray)} {seen:List (ae×(List ae))} {idx:List Nat} {x:dz} {v:ByteArray}
  (h1:BD l V inp n0 memo m list idx a) (h2:wK l V b (aA.mk rules (ap.mk rev inps recs) memo seen)) (h3:lV memo0 memo) (h4:idx0 <+: idx) (h5:(ch=ch0/\idx=idx0)∨(ch=true/\idx0.length<idx.length))
  (h6:ws.length=k) (h7:∀ q x,q<k->r.c[q]? = some x->∃ v,ws[q]? = some v/\yc l V inp memo0 memo idx a x v) (hx:r.c[k]? = some x) (hv:yc l V inp memo0 memo idx a x v) :
  Ok (c7 p ws m list ch v rules rev inps recs memo seen) fun y=>match y with
   | .go s'=>k<r.c.length/\RF l V b inp n0 a i r memo0 idx0 ch0 (k+1) s'
   | .out y=>LM l V b inp n0 a i r memo0 idx0 ch0 y:=by
 have O:=aU hx;have h3l:=(C.each i r hi).asks;obtain⟨t,ht,_⟩:=x4 C hi (ws:=ws++[v]) (by rw [br,h6]; simp; omega);have hlist:bp list (p:Int)=some (rk l i):=by
  obtain⟨u,rfl⟩:=h4;rw [aV,h1.eq,uy,jm (aU hp),hp]; rfl
 have hru:rules=l:=h2.rules;unfold c7;refine cY (eZ (by simp; omega)) (aX hlist (aX (by rw [hru]; exact ht) (aq ⟨O,idx,h1,h2,h3,h4,h5,by rw [br,h6]; rfl,fun q y hq hy=>?_,ht⟩)));rcases e9 q k with h | h
 ·obtain⟨w,hw1,hw2⟩:=h7 q y h hy;exact⟨w,by rw [jm (aU hw1)]; exact hw1,hw2⟩
 ·obtain rfl:q=k:=by omega
  rw [hx] at hy;obtain rfl:=bJ hy;exact⟨v,by rw [jn (by omega),h6]; simp,hv⟩
end
end
end
section
open Go.Lib hiding intOf
structure Qs (l:List aL) (V:Nat->ByteArray) (b:ap) (inp:ae->ByteArray) (ρ:Nat) (vrec:aA->ae->Option (ByteArray×aA)):Prop where
 rule:∀ s n,wK l V b s->n<l.length->qM (aW l) n<ρ->Ok (vrec s (rk l n)) fun y=>y.1=V n/\wK l V b y.2/\lV s.f y.2.f
 cell:∀ s c,wK l V b s->c<10->Ok (vrec s (bO c)) fun y=>y.1=inp (bO c)/\y.2=s
section
variable {l:List aL} {V:Nat->ByteArray} {b:ap} {inp:ae->ByteArray} {vrec:aA->ae->Option (ByteArray×aA)}
variable {n0:Nat} {a:Nat->Nat} {i p:Nat} {r:aL} {memo0:List (ae×ByteArray)} {idx0:List Nat} {ch0:Bool} (C:bk l) (hv:Qs l V b inp (qM (aW l) n0) vrec) (hi:l[i]? = some r) (hr:r.q=true) (hp:idx0[p]? = some i)
include C hv hi hr hp
theorem Tl {k:Nat} (O:k<=r.c.length):∀ s,RF l V b inp n0 a i r memo0 idx0 ch0 k s->Ok (ep vrec p s.1 s.2.1 s.2.2.1 s.2.2.2.1 s.2.2.2.2.1 s.2.2.2.2.2.1 s.2.2.2.2.2.2.1 s.2.2.2.2.2.2.2.1 s.2.2.2.2.2.2.2.2.1 s.2.2.2.2.2.2.2.2.2.1 s.2.2.2.2.2.2.2.2.2.2.1 s.2.2.2.2.2.2.2.2.2.2.2.1 s.2.2.2.2.2.2.2.2.2.2.2.2.1 s.2.2.2.2.2.2.2.2.2.2.2.2.2) fun y=>match y with
   | .go s'=>k<r.c.length/\RF l V b inp n0 a i r memo0 idx0 ch0 (k+1) s'
   | .out y=>LM l V b inp n0 a i r memo0 idx0 ch0 y:=by
 rintro⟨m,list,ch,ws,rules,rev,inps,recs,memo,seen,d,v,ak,at_⟩ ⟨idx,h1,h2,h3,h4,h5,h6,h7,h8⟩;dsimp only;have hl8:=C.high;obtain⟨t,ht,hcase⟩:=x4 C hi (ws:=ws) (by omega);rw [h8] at ht;obtain rfl:=bJ ht;have hiI:i∈idx:=h4.subset (az hp);unfold ep;rcases hcase with⟨e1,e2⟩|⟨x,hx,e2⟩
 ·injection e2 with ed ev ea;subst ed;simp only [eE,cond_false];exact aq ⟨idx,ws,h1,h2,h3,h4,h5,e1,fun q x hx=>h7 q x (by have:=aU hx; omega) hx,ev⟩
 ·injection e2 with ed ev ea;subst ed;rw [h6] at hx;have n1:=vf C hi hr hx ws;have n2:=vf C hi hr hx [];obtain⟨g0,hg⟩:=oB C hi hx ws;simp only [mL,cond_true,al];rw [ea];have done:∀ {m list ch rules rev inps recs memo seen} {idx:List Nat} {w:ByteArray},BD l V inp n0 memo m list idx a->wK l V b (aA.mk rules (ap.mk rev inps recs) memo seen)->lV memo0 memo->idx0 <+: idx->((ch=ch0/\idx=idx0)∨(ch=true/\idx0.length<idx.length)) ->
    (∀ q x,q<k->r.c[q]? = some x->∃ v,ws[q]? = some v/\yc l V inp memo0 memo idx a x v)->yc l V inp memo0 memo idx a x w->Ok (c7 p ws m list ch w rules rev inps recs memo seen) fun y=>match y with
   | .go s'=>k<r.c.length/\RF l V b inp n0 a i r memo0 idx0 ch0 (k+1) s'
   | .out y=>LM l V b inp n0 a i r memo0 idx0 ch0 y:=fun q1 q2 q3 q4 q5 q6 q7=>Ti C hi hp q1 q2 q3 q4 q5 h6 q6 hx q7
  rcases hg with⟨hc,c,hc4,e3,e4⟩|⟨hc,j,hj,e3,e4⟩
  ·have hB:LJ l x:=.inl hc;have U:nH l inp V x []=inp (bO c):=by
    unfold nH oh;rw [if_pos hc,if_pos hc,n2,<- n1,e3]; rfl
   rw [e4,h2.cell c];simp only [Gs,cond_false];refine aX (n8 _) ?_;rw [KI];simp only [mL,cond_true];refine aP (hv.cell _ c h2 hc4) fun y hy=>?_;obtain⟨y1,y2⟩:=y;obtain⟨f1,f2⟩:=hy;simp only at f1 f2;subst f1 f2;exact done h1 h2 h3 h4 h5 h7 (.inl ⟨hB,U.symm⟩)
  ·have hll:=xe (aU hi);have hjl:j<l.length:=by omega
   have hxj:x.N.toNat=j:=by omega
   have hri:(aW l)[i]? = some true:=by rw [ji hi,hr]
   have hio:=h1.ring i hiI;rw [e4];cases hm:cJ aB (rk l j) memo with
   | some w =>
    have hw:=h2.memo j hjl w hm;simp only [Gt,cond_true,yZ];refine done h1 h2 h3 h4 h5 h7 ?_;by_cases hB:LJ l x
    ·refine .inl ⟨hB,?_⟩;unfold nH;rw [if_neg (by rw [hc]; simp),n2,hxj,hw]
    ·exact .inr ⟨hB,.inl ⟨by rw [hxj,hm]; simp,by rw [hxj,hw]⟩⟩
   | none =>
    simp only [Gs,cond_false];refine aX (n8 _) ?_;rw [Kg];by_cases hrj:(aW l)[j]? = some true
    ·have hB:¬ LJ l x:=by
      rintro (h | h)
      ·rw [hc] at h; cases h
      ·rw [hxj] at h; exact h hrj
     have hm0:cJ aB (rk l x.N.toNat) memo0=none:=by
      rw [hxj];cases h0:cJ aB (rk l j) memo0 with
      | none=>rfl
      | some w=>rw [h3 _ _ h0] at hm; cases hm
     rw [decide_eq_true hrj];simp only [eE,cond_false];have hg:=h1.get j hjl;by_cases hjI:j∈idx
     ·rw [if_pos hjI] at hg;rw [hg];simp only [Gt,eE,cond_false];unfold eo;rw [ea,e4,hg];exact done h1 h2 h3 h4 h5 h7 (.inr ⟨hB,.inr ⟨by rw [hxj]; exact hjI,by rw [hxj]; rfl,hm0⟩⟩)
     ·rw [if_neg hjI] at hg;rw [hg];simp only [Gs,mL,cond_true];have hL:lx (rk l j)=some ⟨#[48]⟩:=by
       unfold lx;rcases rV (l:=l) (n:=j) with⟨_,h⟩|⟨h,_⟩
       ·exact absurd hrj h
       ·rw [h]; rfl
      have hadd:=h1.add hl8 hjl hrj (by have:=AQ hri hj hrj; omega) hjI;have hlen:=h1.len;refine aX hL (cY (eZ (by simp; omega)) ?_);unfold eo;rw [ea,e4,iz];refine done hadd h2 h3 (h4.trans (List.prefix_append _ _)) (.inr ⟨rfl,?_⟩) (fun q y hq hy=>?_) (.inr ⟨hB,.inr ⟨by rw [hxj]; exact ov _ (cp.2 rfl),?_,hm0⟩⟩)
      ·have:=h4.length_le;rw [br]; simp; omega
      ·obtain⟨w,q1,q2⟩:=h7 q y hq hy;exact⟨w,q1,q2.mono (lV.refl _) fun _ h=>mb _ h⟩
      ·rw [hxj,h1.zero j hjI,FO]; rfl
    ·have hB:LJ l x:=.inr (by rw [hxj]; exact hrj);have U:nH l inp V x []=V j:=by
      unfold nH;rw [if_neg (by rw [hc]; simp),n2,hxj]
     rw [decide_eq_false hrj];simp only [mL,cond_true];have hlow:=yN hri hj hrj;refine aP (hv.rule _ j h2 hjl (by rw [vj hrj]; omega)) fun y hy=>?_;obtain⟨f1,f2,f3⟩:=hy;exact done (h1.grow f3) f2 (h3.trans f3) h4 h5 (fun q y hq hy=>by
      obtain⟨w,q1,q2⟩:=h7 q y hq hy;exact⟨w,q1,q2.mono f3 fun _ h=>h⟩) (.inl ⟨hB,by rw [U,f1]⟩)
theorem NE {m:List (ae×ByteArray)} {list:List ae} {rules:List aL} {rev:Int} {inps:List be} {recs:List ar} {seen:List (ae×(List ae))} (h1:BD l V inp n0 memo0 m list idx0 a) (h2:wK l V b (aA.mk rules (ap.mk rev inps recs) memo0 seen)) {t:uR} (ht:fZ l (rk l i) []=some t) {β:Type} {R:β->Prop} {g:_->Option β} (hg:∀ y,LM l V b inp n0 a i r memo0 idx0 ch0 y->Ok (g y) R) :
  Ok ((loop (fun s:(List (ae×ByteArray))×(List ae)×Bool×(List ByteArray)×(List aL)×Int×(List be)×(List ar)×(List (ae×ByteArray))×(List (ae×(List ae)))×Bool×ByteArray×Int×ByteArray=>ep vrec p s.1 s.2.1 s.2.2.1 s.2.2.2.1 s.2.2.2.2.1 s.2.2.2.2.2.1 s.2.2.2.2.2.2.1 s.2.2.2.2.2.2.2.1 s.2.2.2.2.2.2.2.2.1 s.2.2.2.2.2.2.2.2.2.1 s.2.2.2.2.2.2.2.2.2.2.1 s.2.2.2.2.2.2.2.2.2.2.2.1 s.2.2.2.2.2.2.2.2.2.2.2.2.1 s.2.2.2.2.2.2.2.2.2.2.2.2.2) (m,list,ch0,[],rules,rev,inps,recs,memo0,seen,t.u1,t.t,t.t1.k,t.t1.x)).bind g) R:=by
 refine bL (RF l V b inp n0 a i r memo0 idx0 ch0) (LM l V b inp n0 a i r memo0 idx0 ch0) r.c.length ?_ (fun k s O hI=>(Tl C hv hi hr hp O s hI).mono fun y hy=>by cases y <;> exact hy) hg;exact⟨idx0,h1,h2,lV.refl _,List.prefix_refl _,.inl ⟨rfl,rfl⟩,rfl,fun q x hq=>absurd hq (by omega),ht⟩
end
end
section
open Go.Lib hiding intOf
def AU (a:Nat->Nat):Nat->Nat
 | 0=>0
 | n+1=>AU a n+a n
theorem Kk {a a':Nat->Nat} (h:∀ j,a j<=a' j):∀ n,AU a n<=AU a' n
 | 0=>bx _
 | n+1=>Nat.add_le_add (Kk h n) (h n)
theorem Kl {a a':Nat->Nat} (h:∀ j,a j<=a' j) {i:Nat} (hi:a i<a' i):∀ n,i<n->AU a n<AU a' n
 | 0,h0=>absurd h0 (by omega)
 | n+1,h0=>by
  have h1:=h n;have h2:=Kk h n;show AU a n+a n<AU a' n+a' n;rcases e9 i n with h3 | h3
  ·have:=Kl h hi n h3; omega
  ·obtain rfl:i=n:=by omega
   omega
theorem Dk {a:Nat->Nat} (h:∀ j,a j<65536):∀ n,AU a n<=n*65536
 | 0=>by simp [AU]
 | n+1=>by
  have:=Dk h n;have:=h n;show AU a n+a n<=_;omega
theorem Od {a m:Nat} (h:∀ q,a.testBit q=true->m.testBit q=true):a<=m:=by
 have:a &&& m=a:=by
  apply Gp;intro q;rw [Nat.testBit_and];cases ha:a.testBit q with
  | false=>rfl
  | true=>rw [h q ha]; rfl
 rw [<- this];exact Nat.and_le_right
section
variable {l:List aL} {V:Nat->ByteArray} {b:ap} {inp:ae->ByteArray} {vrec:aA->ae->Option (ByteArray×aA)}
def ZY (l:List aL) (V:Nat->ByteArray) (inp:ae->ByteArray) (idx:List Nat) (a:Nat->Nat) (i:Nat):Prop :=
 ∃ r,l[i]? = some r/\(∀ q,r.C.toNat.testBit q=true->(a i).testBit q=true)/\∀ x∈r.c,(LJ l x->∀ q,(iQ (nH l inp V x [])).toNat.testBit q=true->(a i).testBit q=true) /\
  (¬ LJ l x->(∀ q,RB l inp V x.N.toNat q->(a i).testBit q=true)∨(x.N.toNat∈idx/\∀ q,(a x.N.toNat).testBit q=true->(a i).testBit q=true))
theorem IW {idx:List Nat} {a:Nat->Nat} (hc:∀ i∈idx,ZY l V inp idx a i) {i q:Nat} (h:RB l inp V i q):i∈idx->(a i).testBit q=true:=by
 induction h with
 | own h1 h2 =>
  intro hi;obtain⟨r,g1,g2,g3⟩:=hc _ hi;rw [h1] at g1;obtain rfl:=bJ g1;exact g2 _ h2
 | ask h1 h2 h3 h4 =>
  intro hi;obtain⟨r,g1,g2,g3⟩:=hc _ hi;rw [h1] at g1;obtain rfl:=bJ g1;exact (g3 _ h2).1 h3 _ h4
 | ring h1 h2 h3 h4 h5 ih =>
  intro hi;obtain⟨r,g1,g2,g3⟩:=hc _ hi;rw [h1] at g1;obtain rfl:=bJ g1;rcases (g3 _ h2).2 (by rintro (h | h); rw [h3] at h; cases h; exact h h4) with h | ⟨h,k⟩
  ·exact h _ h5
  ·exact k _ (ih h)
theorem zF (C:bk l) (hD:GC l inp V) {j:Nat} (hj:(aW l)[j]? = some true):∃ u:Nat,V j=cV u/\u<65536/\(iQ (V j)).toNat=u/\∀ q,u.testBit q=true↔RB l inp V j q:=by
 have hl:j<l.length:=by have:=aU hj; unfold aW at this; rwa [iq] at this
 have hg:=bh hl;obtain⟨u,h1,h2,h3⟩:=hD.ring j l[j] hg (by rw [lj hl] at hj; exact bJ hj);exact⟨u,h1,h2,by rw [h1,tW h2]; omega,h3⟩
theorem Dn {n:Nat} (h:n<65536):(iQ (cV (n:Int))).toNat=n:=by rw [tW h]; omega
theorem Jd {x:dz} (h:¬ LJ l x):x.w=false/\(aW l)[x.N.toNat]? = some true:=by
 constructor
 ·cases hc:x.w with
  | false=>rfl
  | true=>exact absurd (.inl hc) h
 ·exact DH fun e=>h (.inr e)
theorem BD.set {n0:Nat} {memo m:List (ae×ByteArray)} {list:List ae} {idx:List Nat} {a:Nat->Nat} (h:BD l V inp n0 memo m list idx a) (hl:l.length<=8) {i u:Nat} (hi:i∈idx) (hu:u<65536) (hlow:∀ q,(a i).testBit q=true->u.testBit q=true) (hRB:∀ q,u.testBit q=true->RB l inp V i q) (hF:∀ q,u.testBit q=true->Fb l V inp memo a i q) :
  BD l V inp n0 memo (ew aB (rk l i) (cV (u:Int)) m) list idx (fun j=>if j=i then u else a j):=by
 have hmono:∀ j q,(a j).testBit q=true->(if j=i then u else a j).testBit q=true:=by
  intro j q hq;by_cases e:j=i
  ·rw [if_pos e]; rw [e] at hq; exact hlow q hq
  ·rw [if_neg e]; exact hq
 refine⟨h.eq,h.nd,h.ring,h.head,fun j hj=>?_,fun j hj=>?_,fun j=>?_,fun j q hq=>?_,fun j hj q hq=>?_⟩
 ·by_cases e:j=i
  ·subst e;rw [iz,if_pos hi,if_pos rfl]
  ·rw [mZ (fun e2=>e (uK (by omega) (by have:=(h.ring i hi).1; omega) e2)),h.get j hj];simp only [if_neg e]
 ·have:j≠i:=fun e=>hj (e▸hi);show (if j=i then u else a j)=0;rw [if_neg this]; exact h.zero j hj
 ·show (if j=i then u else a j)<65536;split
  ·exact hu
  ·exact h.lt j
 ·by_cases e:j=i
  ·rw [if_pos e] at hq; rw [e]; exact hRB q hq
  ·rw [if_neg e] at hq; exact h.le j q hq
 ·by_cases e:j=i
  ·rw [if_pos e] at hq; rw [e]; exact (hF q hq).mono (lV.refl _) hmono
  ·rw [if_neg e] at hq; exact (h.up j hj q hq).mono (lV.refl _) hmono
section
variable {n0:Nat} {a:Nat->Nat} {i:Nat} {r:aL} {memo0 memo m m0:List (ae×ByteArray)} {idx0 idx:List Nat} {list list0:List ae} {ws:List ByteArray} {u:Nat} (C:bk l) (hD:GC l inp V) (hi:l[i]? = some r) (hr:r.q=true)
 (h0:BD l V inp n0 memo0 m0 list0 idx0 a) (h1:BD l V inp n0 memo m list idx a) (hiI:i∈idx0) (hlen:ws.length=r.c.length) (hans:∀ (q:Nat) (x:dz),r.c[q]? = some x->∃ (w:ByteArray),ws[q]? = some w/\yc l V inp memo0 memo idx a x w)
 (hu:∀ q,u.testBit q=true↔r.C.toNat.testBit q=true∨∃ v∈ws,(iQ v).toNat.testBit q=true)
include C hD hi h0 h1 hiI hlen hans hu
omit hlen in
theorem OO (q:Nat) (hq:(a i).testBit q=true):u.testBit q=true:=by
 obtain⟨r',g1,g2⟩:=h0.up i hiI q hq;rw [hi] at g1;obtain rfl:=bJ g1;rcases g2 with g2 | ⟨x,g2,g3⟩
 ·exact (hu q).2 (.inl g2)
 ·obtain⟨k,O⟩:=dt.1 g2;obtain⟨w,w1,w2⟩:=hans k x O;refine (hu q).2 (.inr ⟨w,az w1,?_⟩);rcases w2 with⟨w2,rfl⟩|⟨w2,w3⟩
  ·rcases g3 with⟨_,g3⟩|⟨g3,_⟩
   ·exact g3
   ·exact absurd w2 g3
  ·obtain⟨u',d1,d2,d3,d4⟩:=zF C hD (Jd w2).2;rcases g3 with⟨g3,_⟩|⟨_,g3⟩
   ·exact absurd g3 w2
   ·rcases w3 with⟨_,rfl⟩|⟨_,rfl,w5⟩
    ·rw [d3,d4];rcases g3 with⟨_,g3⟩ | g3
     ·exact g3
     ·exact h1.le _ _ g3
    ·rw [Dn (h1.lt _)];rcases g3 with⟨g3,_⟩ | g3
     ·exact absurd w5 g3
     ·exact g3
omit h0 hiI in
theorem QX (q:Nat) (hq:u.testBit q=true):RB l inp V i q/\Fb l V inp memo a i q:=by
 rcases (hu q).1 hq with g | ⟨w,g1,g2⟩
 ·exact⟨.own hi g,r,hi,.inl g⟩
 ·obtain⟨k,O⟩:=dt.1 g1;have hk2:=aU O;have hx:=bh (l:=r.c) (i:=k) (by omega);obtain⟨w',w1,w2⟩:=hans k _ hx;rw [O] at w1;obtain rfl:=bJ w1;have hm:=az hx;rcases w2 with⟨w2,rfl⟩|⟨w2,w3⟩
  ·exact⟨.ask hi hm w2 g2,r,hi,.inr ⟨_,hm,.inl ⟨w2,g2⟩⟩⟩
  ·obtain⟨u',d1,d2,d3,d4⟩:=zF C hD (Jd w2).2;rcases w3 with⟨w3,rfl⟩|⟨_,rfl,w5⟩
   ·rw [d3,d4] at g2;exact⟨.ring hi hm (Jd w2).1 (Jd w2).2 g2,r,hi,.inr ⟨_,hm,.inr ⟨w2,.inl ⟨w3,g2⟩⟩⟩⟩
   ·rw [Dn (h1.lt _)] at g2;exact⟨.ring hi hm (Jd w2).1 (Jd w2).2 (h1.le _ _ g2),r,hi,.inr ⟨_,hm,.inr ⟨w2,.inr g2⟩⟩⟩
omit h0 hiI hlen in
theorem QW (hau:a i=u):ZY l V inp idx a i:=by
 refine⟨r,hi,fun q hq=>?_,fun x hx=>?_⟩
 ·rw [hau]; exact (hu q).2 (.inl hq)
 ·obtain⟨k,O⟩:=dt.1 hx;obtain⟨w,w1,w2⟩:=hans k x O;have hw:∀ q,(iQ w).toNat.testBit q=true->(a i).testBit q=true:=fun q hq=>by
   rw [hau]; exact (hu q).2 (.inr ⟨w,az w1,hq⟩)
  rcases w2 with⟨w2,rfl⟩|⟨w2,w3⟩
  ·exact⟨fun _ q hq=>hw q hq,fun h=>absurd w2 h⟩
  ·obtain⟨u',d1,d2,d3,d4⟩:=zF C hD (Jd w2).2;refine⟨fun h=>absurd h w2,fun _=>?_⟩;rcases w3 with⟨_,rfl⟩|⟨w3,rfl,_⟩
   ·exact .inl fun q hq=>hw q (by rw [d3,d4]; exact hq)
   ·exact .inr ⟨w3,fun q hq=>hw q (by rw [Dn (h1.lt _)]; exact hq)⟩
end
end
end
section
open Go.Lib hiding intOf
section
variable {l:List aL} {V:Nat->ByteArray} {b:ap} {inp:ae->ByteArray} {vrec:aA->ae->Option (ByteArray×aA)}
def mu (l:List aL) (idx:List Nat) (a:Nat->Nat):Nat:=idx.length+AU a l.length
def Jm (l:List aL) (V:Nat->ByteArray) (b:ap) (inp:ae->ByteArray) (n0:Nat) (memo1:List (ae×ByteArray)) (idx1:List Nat) (a1:Nat->Nat) (k:Nat) :
  (List (ae×ByteArray))×(List ae)×Bool×Int×(List aL)×Int×(List be)×(List ar)×(List (ae×ByteArray))×(List (ae×(List ae)))->Prop
 | (m,list,ch,p,rules,rev,inps,recs,memo,seen) =>
  ∃ (idx:List Nat) (a:Nat->Nat),p=(k:Int)/\k<=idx.length/\BD l V inp n0 memo m list idx a/\wK l V b (aA.mk rules (ap.mk rev inps recs) memo seen)/\lV memo1 memo /\
   ((ch=false/\idx=idx1/\a=a1/\∀ (q i:Nat),q<k->idx[q]? = some i->ZY l V inp idx a i)∨(ch=true/\mu l idx1 a1<mu l idx a))
def Jo (l:List aL) (V:Nat->ByteArray) (b:ap) (inp:ae->ByteArray) (n0:Nat) (memo1:List (ae×ByteArray)) (idx1:List Nat) (a1:Nat->Nat) :
  (List (ae×ByteArray))×(List ae)×Bool×(List aL)×Int×(List be)×(List ar)×(List (ae×ByteArray))×(List (ae×(List ae)))->Prop
 | (m,list,ch,rules,rev,inps,recs,memo,seen) =>
  ∃ (idx:List Nat) (a:Nat->Nat),BD l V inp n0 memo m list idx a/\wK l V b (aA.mk rules (ap.mk rev inps recs) memo seen)/\lV memo1 memo /\
   ((ch=false/\∀ i∈idx,ZY l V inp idx a i)∨(ch=true/\mu l idx1 a1<mu l idx a))
section
variable {n0:Nat} {memo1:List (ae×ByteArray)} {idx1:List Nat} {a1:Nat->Nat} (C:bk l) (hD:GC l inp V) (hv:Qs l V b inp (qM (aW l) n0) vrec)
include C hD hv
theorem QQ {k:Nat} (O:k<=l.length):∀ s,Jm l V b inp n0 memo1 idx1 a1 k s->Ok (fm vrec s.1 s.2.1 s.2.2.1 s.2.2.2.1 s.2.2.2.2.1 s.2.2.2.2.2.1 s.2.2.2.2.2.2.1 s.2.2.2.2.2.2.2.1 s.2.2.2.2.2.2.2.2.1 s.2.2.2.2.2.2.2.2.2) fun y=>match y with
   | .go s'=>k<l.length/\Jm l V b inp n0 memo1 idx1 a1 (k+1) s'
   | .out y=>Jo l V b inp n0 memo1 idx1 a1 y:=by
 rintro⟨m,list,ch,p,rules,rev,inps,recs,memo,seen⟩ ⟨idx,a,rfl,hkl,h1,h2,h3,h4⟩;dsimp only;have hl8:=C.high;obtain⟨len1,len2⟩:=h1.len;unfold fm;refine aS (fun hb=>?_) (fun hb=>?_)
 ·have hlt:k<idx.length:=by have:=of_decide_eq_true hb; omega
  have hp:=bh hlt;have hiI:=az hp;generalize idx[k]=i at hp hiI;obtain⟨hil,hir,hio⟩:=h1.ring i hiI;have hi:=bh hil;generalize l[i]=r at hi;have hr:r.q=true:=by rw [ji hi] at hir; exact bJ hir
  obtain⟨t,ht,_⟩:=x4 C hi (ws:=[]) (by simp);have hget:bp list ((k:Nat):Int)=some (rk l i):=by rw [aV,h1.eq,uy,hp]; rfl
  have hru:rules=l:=h2.rules;refine aX hget (aX (by rw [hru]; exact ht) ?_);unfold iu;refine NE C hv hi hr hp h1 h2 ht ?_;rintro⟨m',list',ch',rules',rev',inps',recs',memo',seen',d',v',ak',at'⟩ ⟨idx',ws,g1,g2,g3,g4,g5,g6,g7,g8⟩;dsimp only;obtain⟨u,hu1,hu2,hu3⟩:=Hn C hi hr ws;rw [hu1] at g8;subst g8;have hp':idx'[k]? = some i:=by
   obtain⟨z,rfl⟩:=g4;rw [jm hlt]; exact hp
  have hiI':i∈idx':=g4.subset hiI;have hget':bp list' ((k:Nat):Int)=some (rk l i):=by rw [aV,g1.eq,uy,hp']; rfl
  have hm:=g1.get i hil;rw [if_pos hiI'] at hm;have hlen':=g4.length_le;have hk1:k+1<=idx'.length:=aU hp';have hwr:IntKind.i64.wrap ((k:Int)+1)=((k+1:Nat):Int):=cy (by omega);unfold fP;refine aX hget' ?_;rw [hm];simp only [yZ,al];by_cases e:a i=u
  ·rw [e,show ((cV (u:Int)).toList==(cV (u:Int)).toList)=true by simp];simp only [eE,cond_false];unfold ej;rw [hwr];refine aq ⟨by omega,idx',a,rfl,hk1,g1,g2,h3.trans g3,?_⟩;rcases g5 with⟨e1,e2⟩|⟨e1,e2⟩
   ·subst e1 e2;rcases h4 with⟨q1,q2,q3,q4⟩|⟨q1,q2⟩
    ·refine .inl ⟨q1,q2,q3,fun q j hq hj=>?_⟩;rcases e9 q k with hq2 | hq2
     ·exact q4 q j hq2 hj
     ·obtain rfl:q=k:=by omega
      rw [hp'] at hj;obtain rfl:=bJ hj;exact QW C hD hi g1 g7 hu3 e
    ·exact .inr ⟨q1,q2⟩
   ·refine .inr ⟨e1,?_⟩;unfold mu at h4 ⊢;rcases h4 with⟨q1,q2,q3,q4⟩|⟨q1,q2⟩
    ·rw [<- q2,<- q3]; omega
    ·omega
  ·have hne:((cV ((a i:Nat):Int)).toList==(cV (u:Int)).toList)=false:=by
    rw [beq_eq_false_iff_ne];exact fun h=>e (Ar (g1.lt i) hu2 (toList_inj h))
   rw [hne];simp only [mL,cond_true];refine aX hget' ?_;unfold ej;rw [hwr];have hlow:=OO C hD hi h1 g1 hiI g7 hu3;have hup:=QX C hD hi g1 g6 g7 hu3;have x8:=g1.set hl8 hiI' hu2 hlow (fun q hq=>(hup q hq).1) (fun q hq=>(hup q hq).2);refine aq ⟨by omega,idx',_,rfl,hk1,x8,g2,h3.trans g3,.inr ⟨rfl,?_⟩⟩;have hle:a i<=u:=Od hlow;have hs:AU a l.length<AU (fun j=>if j=i then u else a j) l.length:=by
    refine Kl (i:=i) (fun j=>?_) ?_ _ hil
    ·show a j<=if j=i then u else a j;split
     ·rename_i hj; rw [hj]; exact hle
     ·exact bx _
    ·show a i<if i=i then u else a i;rw [if_pos rfl]; omega
   unfold mu at h4 ⊢;rcases h4 with⟨q1,q2,q3,q4⟩|⟨q1,q2⟩
   ·rw [<- q2,<- q3]; omega
   ·omega
 ·have hge:¬ k<idx.length:=by have:=of_decide_eq_false hb; omega
  refine aq ⟨idx,a,h1,h2,h3,?_⟩;rcases h4 with⟨q1,q2,q3,q4⟩|⟨q1,q2⟩
  ·refine .inl ⟨q1,fun i hi=>?_⟩;obtain⟨q,hq⟩:=dt.1 hi;exact q4 q i (by have:=aU hq; omega) hq
  ·exact .inr ⟨q1,q2⟩
def Io (l:List aL) (V:Nat->ByteArray) (b:ap) (inp:ae->ByteArray) (n0:Nat) (memo1:List (ae×ByteArray)) (k:Nat) :
  (List (ae×ByteArray))×(List ae)×Bool×(List aL)×Int×(List be)×(List ar)×(List (ae×ByteArray))×(List (ae×(List ae)))->Prop
 | (m,list,ch,rules,rev,inps,recs,memo,seen) =>
  ∃ (idx:List Nat) (a:Nat->Nat),BD l V inp n0 memo m list idx a/\wK l V b (aA.mk rules (ap.mk rev inps recs) memo seen)/\lV memo1 memo /\
   ((ch=false/\∀ i∈idx,ZY l V inp idx a i)∨(ch=true/\k<=mu l idx a))
def Fo (l:List aL) (V:Nat->ByteArray) (b:ap) (inp:ae->ByteArray) (n0:Nat) (memo1:List (ae×ByteArray)) :
  (List (ae×ByteArray))×(List ae)×(List aL)×Int×(List be)×(List ar)×(List (ae×ByteArray))×(List (ae×(List ae)))->Prop
 | (m,list,rules,rev,inps,recs,memo,seen) =>
  ∃ (idx:List Nat) (a:Nat->Nat),BD l V inp n0 memo m list idx a/\wK l V b (aA.mk rules (ap.mk rev inps recs) memo seen)/\lV memo1 memo/\∀ i∈idx,ZY l V inp idx a i
omit hD hv in
theorem MQ {memo m:List (ae×ByteArray)} {list:List ae} {idx:List Nat} {a:Nat->Nat} (h:BD l V inp n0 memo m list idx a):mu l idx a<=600000:=by
 have:=Dk h.lt l.length;have:=h.len.2;have:=C.high;unfold mu;omega
theorem QR {k:Nat}:∀ s,Io l V b inp n0 memo1 k s->Ok (fo vrec s.1 s.2.1 s.2.2.1 s.2.2.2.1 s.2.2.2.2.1 s.2.2.2.2.2.1 s.2.2.2.2.2.2.1 s.2.2.2.2.2.2.2.1 s.2.2.2.2.2.2.2.2) fun y=>match y with
   | .go s'=>k<600001/\Io l V b inp n0 memo1 (k+1) s'
   | .out y=>Fo l V b inp n0 memo1 y:=by
 rintro⟨m,list,ch,rules,rev,inps,recs,memo,seen⟩ ⟨idx,a,h1,h2,h3,h4⟩;dsimp only;unfold fo;refine aS (fun hb=>?_) (fun hb=>?_)
 ·subst hb;have h5:k<=mu l idx a:=by
   rcases h4 with⟨h,_⟩|⟨_,h⟩
   ·cases h
   ·exact h
  have hbd:=MQ C h1;refine bL (Jm l V b inp n0 memo idx a) (Jo l V b inp n0 memo idx a) l.length ⟨idx,a,rfl,cT _,h1,h2,lV.refl _,.inl ⟨rfl,rfl,rfl,fun q i hq=>absurd hq (by omega)⟩⟩
   (fun k s O hI=>(QQ C hD hv O s hI).mono fun y hy=>by cases y <;> exact hy) ?_
  rintro⟨m',list',ch',rules',rev',inps',recs',memo',seen'⟩ ⟨idx',a',g1,g2,g3,g4⟩;refine aq ⟨by omega,idx',a',g1,g2,h3.trans g3,?_⟩;rcases g4 with⟨q1,q2⟩|⟨q1,q2⟩
  ·exact .inl ⟨q1,q2⟩
  ·exact .inr ⟨q1,by omega⟩
 ·subst hb;refine aq ⟨idx,a,h1,h2,h3,?_⟩;rcases h4 with⟨_,h⟩|⟨h,_⟩
  ·exact h
  ·cases h
omit hv in
theorem Mr {m list memo idx a} (h1:BD l V inp n0 memo m list idx a) (hc:∀ i∈idx,ZY l V inp idx a i) {i:Nat} (hi:i∈idx):cV ((a i:Nat):Int)=V i:=by
 obtain⟨u,d1,d2,d3,d4⟩:=zF C hD (h1.ring i hi).2.1;rw [d1];congr 2;apply Gp;intro q;rw [KA,d4];exact⟨h1.le i q,fun h=>IW hc h hi⟩
theorem Nu {s:aA} (hs:wK l V b s) (hn:n0<l.length) (hr0:(aW l)[n0]? = some true) :
  Ok (jd vrec s (rk l n0)) fun s'=>wK l V b s'/\lV s.f s'.f/\cJ aB (rk l n0) s'.f=some (V n0):=by
 have hl8:=C.high;have hL:lx (rk l n0)=some ⟨#[48]⟩:=by
  unfold lx;rcases rV (l:=l) (n:=n0) with⟨_,h⟩|⟨h,_⟩
  ·exact absurd hr0 h
  ·rw [h]; rfl
 unfold jd;refine aX hL ?_;unfold iv;have U:BD l V inp n0 s.f (ew aB (rk l n0) ⟨#[48]⟩ []) [rk l n0] [n0] (fun _=>0):=by
  refine⟨rfl,by simp,fun i hi=>?_,cp.2 rfl,fun i hi=>?_,fun _ _=>rfl,fun _=>by simp,fun i q hq=>by simp at hq,fun i _ q hq=>by simp at hq⟩
  ·rw [cp.1 hi]; exact⟨hn,hr0,bx _⟩
  ·by_cases e:i=n0
   ·subst e;rw [iz,if_pos (cp.2 rfl),FO]
   ·rw [mZ (fun e2=>e (uK (by omega) (by omega) e2)),if_neg (by simpa using e)]; rfl
 refine bL (Io l V b inp n0 s.f) (Fo l V b inp n0 s.f) 600001 ⟨[n0],fun _=>0,U,hs,lV.refl _,.inr ⟨rfl,cT _⟩⟩
  (fun k s O hI=>(QR C hD hv s hI).mono fun y hy=>by cases y <;> exact hy) ?_
 rintro⟨m,list,rules,rev,inps,recs,memo,seen⟩ ⟨idx,a,h1,h2,h3,h4⟩;obtain⟨len1,len2⟩:=h1.len;dsimp only;unfold fO;refine bL (fun (k:Nat) (st:Int×List (ae×ByteArray))=>st.1=k/\k<=idx.length/\wK l V b (aA.mk rules (ap.mk rev inps recs) st.2 seen)/\lV s.f st.2/\∀ (q i:Nat),q<k->idx[q]? = some i->cJ aB (rk l i) st.2=some (V i))
  (fun memo'=>wK l V b (aA.mk rules (ap.mk rev inps recs) memo' seen)/\lV s.f memo'/\cJ aB (rk l n0) memo'=some (V n0)) idx.length ⟨rfl,cT _,h2,h3,fun q i hq=>absurd hq (by omega)⟩ ?_ ?_
 ·rintro k ⟨p,memo'⟩ O ⟨rfl,_,g1,g2,g3⟩;dsimp only;unfold jr;refine aS (fun hb=>?_) (fun hb=>?_)
  ·have hlt:k<idx.length:=by have:=of_decide_eq_true hb; omega
   have hp:=bh hlt;have hiI:=az hp;generalize idx[k]=i at hp hiI;obtain⟨hil,_⟩:=h1.ring i hiI;have hget:bp list ((k:Nat):Int)=some (rk l i):=by rw [aV,h1.eq,uy,hp]; rfl
   refine aX hget ?_;have hm:=h1.get i hil;rw [if_pos hiI,Mr C hD h1 h4 hiI] at hm;rw [hm];simp only [yZ,al];obtain⟨p1,p2⟩:=g1.put hil hl8;refine aq ⟨hlt,cy (by omega),hlt,p1,g2.trans p2,fun q j hq hj=>?_⟩;rcases e9 q k with hq2 | hq2
   ·exact p2 _ _ (g3 q j hq2 hj)
   ·obtain rfl:q=k:=by omega
    rw [hp] at hj;obtain rfl:=bJ hj;exact iz _ _ _
  ·have hge:¬ k<idx.length:=by have:=of_decide_eq_false hb; omega
   obtain⟨q,hq⟩:=dt.1 h1.head;exact aq ⟨g1,g2,g3 q n0 (by have:=aU hq; omega) hq⟩
 ·rintro memo' ⟨g1,g2,g3⟩;exact aq ⟨g1,g2,g3⟩
end
end
end
section
open Go.Lib hiding intOf
variable {s:aA} {vrec:aA->ae->Option (ByteArray×aA)}
section
variable {l:List aL} {V:Nat->ByteArray} {b:ap}
noncomputable abbrev inB (b:ap) (k:ae):ByteArray:=(mX b k).t
theorem Qs.le {ρ ρ':Nat} {inp:ae->ByteArray} (h:Qs l V b inp ρ vrec) (hl:ρ'<=ρ):Qs l V b inp ρ' vrec :=
 ⟨fun s n hs hn hr=>h.rule s n hs hn (by omega),h.cell⟩
theorem q8 {inp:ae->ByteArray} {r:aL} {k:Nat} {x:dz} (hx:r.c[k]? = some x):eW l inp V r (k+1)=eW l inp V r k++[nH l inp V x (eW l inp V r k)]:=by
 show (match r.c[k]? with | none=>_ | some x=>_)=_;rw [hx]
theorem wO {inp:ae->ByteArray} {r:aL}:∀ {k:Nat},k<=r.c.length->(eW l inp V r k).length=k
 | 0,_=>rfl
 | k+1,h=>by rw [q8 (bh (show k<r.c.length by omega)),br,wO (by omega)]; rfl
theorem Jv (C:bk l) (hD:GC l (inB b) V) (hb:Rm b.i.length) {f:Nat} (hv:Qs l V b (inB b) f vrec) {n:Nat} (hs:wK l V b s) (hn:n<l.length) (hf:qM (aW l) n<=f) :
  Ok (eM vrec s (rk l n)) fun y=>y.1=V n/\wK l V b y.2/\lV s.f y.2.f:=by
 have hl8:=C.high;unfold eM;refine aX oW ?_;simp only [cond_false,al];refine aS (fun hm=>?_) (fun hm=>?_)
 ·obtain⟨v,hv⟩:=Option.isSome_iff_exists.1 hm;rw [hv];exact aq ⟨hs.memo n hn v hv,hs,lV.refl _⟩
 ·refine aX (n8 _) ?_;rw [Kg];by_cases hr:(aW l)[n]? = some true
  ·rw [decide_eq_true hr];simp only [cond_true];refine aP (Nu C hD (hv.le hf) hs hn hr) fun s' ⟨h1,h2,h3⟩=>?_;rw [h3];exact aq ⟨rfl,h1,h2⟩
  ·rw [decide_eq_false hr];simp only [cond_false];have hi:=bh hn;generalize l[n]=r at hi;have hrr:r.q=false:=by
    rw [ji hi] at hr;cases h:r.q with
    | false=>rfl
    | true=>rw [h] at hr; exact absurd rfl hr
   have h3l:=(C.each n r hi).asks;refine bL (fun (k:Nat) (st:(List ByteArray)×(List aL)×Int×(List be)×(List ar)×(List (ae×ByteArray))×(List (ae×(List ae))))=>k<=r.c.length/\st.1=eW l (inB b) V r k/\wK l V b (aA.mk st.2.1 (ap.mk st.2.2.1 st.2.2.2.1 st.2.2.2.2.1) st.2.2.2.2.2.1 st.2.2.2.2.2.2)/\lV s.f st.2.2.2.2.2.1)
    (fun y=>y.1=V n/\wK l V b y.2/\lV s.f y.2.f) r.c.length ⟨cT _,rfl,hs,lV.refl _⟩ ?_ (fun y hy=>aq hy)
   rintro k ⟨ws,rules,rev,inps,recs,memo,seen⟩ O ⟨_,e,g1,g2⟩;dsimp only at e g1 g2 ⊢;subst e;have hru:rules=l:=g1.rules;unfold jp;rw [hru];rcases e9 k r.c.length with hlt | hge
   ·have hx:=bh hlt;generalize r.c[k]=x at hx;have hlen:=wO (l:=l) (V:=V) (inp:=inB b) (r:=r) O;refine aX (If C hi (x:=x) (by rw [hlen]; exact hx)) ?_;unfold fN;simp only [cond_false];obtain⟨_,hg⟩:=oB C hi hx (eW l (inB b) V r k);have fin:∀ {w:ByteArray} {rules rev inps recs memo seen},w=nH l (inB b) V x (eW l (inB b) V r k)->wK l V b (aA.mk rules (ap.mk rev inps recs) memo seen)->lV s.f memo->Ok (gd (cm ((eW l (inB b) V r k).length+[w].length)) <| some (Fl.go (R:=ByteArray×aA) (eW l (inB b) V r k++[w],rules,rev,inps,recs,memo,seen))) fun y=>match y with
      | .go st=>k<r.c.length/\(k+1<=r.c.length/\st.1=eW l (inB b) V r (k+1)/\wK l V b (aA.mk st.2.1 (ap.mk st.2.2.1 st.2.2.2.1 st.2.2.2.2.1) st.2.2.2.2.2.1 st.2.2.2.2.2.2)/\lV s.f st.2.2.2.2.2.1)
      | .out y=>y.1=V n/\wK l V b y.2/\lV s.f y.2.f:=by
     intro w rules rev inps recs memo seen hw q1 q2;exact cY (eZ (by rw [hlen]; simp; omega)) (aq ⟨hlt,hlt,by rw [q8 hx,hw],q1,q2⟩)
    have hK:ae.mk (oh l x (eW l (inB b) V r k)).k (oh l x (eW l (inB b) V r k)).x=oh l x (eW l (inB b) V r k):=rfl;rw [hK];rw [hru] at g1;rcases hg with⟨hc,c,hc4,e3,e4⟩|⟨hc,j,hj,e3,e4⟩
    ·have U:nH l (inB b) V x (eW l (inB b) V r k)=inB b (bO c):=by unfold nH; rw [if_pos hc,e4]
     rw [e4];refine aP (hv.cell _ c g1 hc4) fun y hy=>?_;obtain⟨y1,y2⟩:=y;obtain⟨f1,f2⟩:=hy;simp only at f1 f2;subst f1 f2;exact (fin U.symm g1 g2).mono fun y hy=>by cases y <;> exact hy
    ·have hll:=xe hn;have U:nH l (inB b) V x (eW l (inB b) V r k)=V j:=by unfold nH; rw [if_neg (by rw [hc]; simp),e3]; rfl
     rw [e4];refine aP (hv.rule _ j g1 (by omega) (by have:=AD hr hj; omega)) fun y hy=>?_;obtain⟨f1,f2,f3⟩:=hy;exact (fin (by rw [f1,U]) f2 (g2.trans f3)).mono fun y hy=>by cases y <;> exact hy
   ·obtain rfl:k=r.c.length:=by omega
    have hlen:=wO (l:=l) (V:=V) (inp:=inB b) (r:=r) (bx r.c.length);refine aX (E2 C hi (by rw [hlen]; exact bx _)) ?_;have hval:=hD.plain n r hi hrr;unfold fN;simp only [cond_true];rw [sI (by rw [hlen]; exact bx _),<- hval];rw [hru] at g1;obtain⟨p1,p2⟩:=g1.put hn hl8;exact aq ⟨rfl,p1,g2.trans p2⟩
theorem Do (hb:Rm b.i.length) {c:Nat} (hs:wK l V b s):Ok (eM vrec s (bO c)) fun y=>y.1=inB b (bO c)/\y.2=s:=by
 unfold eM;refine aX mS ?_;simp only [cond_true];refine aX (by rw [hs.base]; exact Ht hb _) (aq ⟨rfl,rfl⟩)
theorem Ij (C:bk l) (hD:GC l (inB b) V) (hb:Rm b.i.length):∀ f,Qs l V b (inB b) f (Pf (f+1))
 | 0=>⟨fun s n _ _ h=>absurd h (by omega),fun s c hs _=>Do hb hs⟩
 | f+1=>⟨fun s n hs hn h=>Jv C hD hb (Ij C hD hb f) hs hn (by omega),fun s c hs _=>Do hb hs⟩
theorem Qg (C:bk l) (hD:GC l (inB b) V) (hb:Rm b.i.length) (hs:wK l V b s) {k:ae} (O:og l k):Ok (vv s k) fun y=>wK l V b y.2/\(∀ n,n<l.length->k=rk l n->y.1=V n):=by
 have h:=Ij C hD hb 39;have hl8:=C.high;rcases O with⟨c,hc,rfl⟩|⟨n,hn,rfl⟩
 ·exact (h.cell s c hs hc).mono fun y hy=>⟨by rw [hy.2]; exact hs,fun n _ e=>absurd e rI⟩
 ·refine (h.rule s n hs hn ?_).mono fun y hy=>⟨hy.2.1,fun m hm e=>?_⟩
  ·have:=Ng (rs:=aW l) n; omega
  ·rw [uK (by omega) (by omega) e] at hy;exact hy.1
end
end
section
open Go.Lib hiding intOf
variable {b:ap} {l:List ar} {x:ar}
theorem gk {r:ar}:x∈eY l r↔x=r∨(x∈l/\x.b≠r.b):=by
 unfold eY;rw [cM,bC,gC,gC];simp only [decide_eq_true_eq];constructor
 ·rintro (⟨h,h1⟩ | h | ⟨h,h1⟩)
  ·exact .inr ⟨h,uh h1⟩
  ·exact .inl h
  ·exact .inr ⟨h,fun e=>by rw [e,u5] at h1; omega⟩
 ·rintro (h | ⟨h,h1⟩)
  ·exact .inr (.inl h)
  ·rcases u6 x.b r.b with h2 | h2 | h2
   ·exact .inl ⟨h,h2⟩
   ·exact absurd h2 h1
   ·exact .inr (.inr ⟨h,qo.2 h2⟩)
theorem N8 (h:Cd l) {y:ar} (hx:x∈l) (hy:y∈l) (e:x.b=y.b):x=y:=by
 induction l with
 | nil=>cases hx
 | cons z m ih =>
  have h':=jl.1 h;rcases bC.1 hx with e1 | h1
  ·rcases bC.1 hy with e2 | h2
   ·rw [e1,e2]
   ·subst e1; exact absurd e (uh (h'.1 y h2))
  ·rcases bC.1 hy with e2 | h2
   ·subst e2; exact absurd e.symm (uh (h'.1 x h1))
   ·exact ih h'.2 h1 h2
theorem Mu (h:Cd l) (hx:x∈l):bj l x.b=(x,true):=by
 unfold bj;cases hf:l.find? (fun r=>fa r.b x.b) with
 | none =>
  have:=DK.1 hf x hx;simp [Au] at this
 | some y =>
  have h1:=List.find?_some hf;have h2:=Gk hf;rw [N8 h h2 hx (fc.1 h1)]
theorem iX (h:Cd l) (hx:x∈l) {k:ae} (e:x.b=k):bj l k=(x,true):=by subst e; exact Mu h hx
theorem xL (h:Cd l) (r:ar) (k:ae):bj (eY l r) k=if k=r.b then (r,true) else bj l k:=by
 have hp:=CX h r;by_cases e:k=r.b
 ·rw [if_pos e];exact iX hp (gk.2 (.inl rfl)) e.symm
 ·rw [if_neg e];cases hf:(bj l k).2 with
  | true =>
   obtain⟨h1,h2⟩:=cB hf;rw [iX hp (gk.2 (.inr ⟨h1,by rw [h2]; exact e⟩)) h2];exact Prod.ext rfl hf.symm
  | false =>
   obtain⟨h1,h2⟩:=rL hf;cases hf2:(bj (eY l r) k).2 with
   | true =>
    obtain⟨h3,h4⟩:=cB hf2;rcases gk.1 h3 with h5 | ⟨h5,_⟩
    ·exact absurd (h4.symm.trans (congrArg ar.b h5)) e
    ·exact absurd h4 (h2 _ h5)
   | false=>rw [(rL hf2).1,h1]
theorem Jh (h:NY l):tP l=some l:=by
 have hl:=h.1;unfold Rm at hl;unfold tP rR;refine jJ (eh (xs:=l) (fun k=>(l.take k,(k:Int))) rfl (r:=l) (fun k x hx=>?_) ?_) rfl
 ·have hlt:=aU hx;unfold oP;dsimp only;rw [dlt hlt,cond_true,aV,hx,al,tw (h.2 x (az hx)),al,eZ (by rw [gQ]; simp; omega),cy (by omega),bI hx];rfl
 ·unfold oP;dsimp only;rw [bZ,f9]; rfl
theorem FA (h:NY b.s) (hi:Rm b.i.length):lF b=some b:=by
 unfold Rm at hi;unfold lF;rw [eZ (by simp; omega),Jh h]; rfl
def dj (g:List ae) (d:Bool) (rev:Int) (r:ar):ar:=if (g.any fun x=>fa r.b x)=true then (if d=true then ⟨r.b,r.t,r.v,r.l,r.u,r.a,true⟩ else ⟨r.b,r.t,r.v,r.l,rev,r.a,r.y⟩) else r
theorem xW (g:List ae) (d:Bool) (rev:Int) (r:ar):(dj g d rev r).b=r.b:=by unfold dj; split <;> (try split) <;> rfl
theorem J7 (h:NY b.s) (hi:Rm b.i.length) {g:List ae} (hg:Rm g.length) (d:Bool):rA b g d=some ⟨b.r,b.i,b.s.map (dj g d b.r)⟩:=by
 have hl:=h.1;unfold Rm at hl;unfold rA rU;rw [FA h hi,al];refine jJ (eh (xs:=b.s) (fun k=>((k:Int),(b.s.take k).map (dj g d b.r)++b.s.drop k)) rfl (r:=b.s.map (dj g d b.r)) (fun k x hx=>?_) ?_) rfl
 ·have hlt:=aU hx;have hlen:((b.s.take k).map (dj g d b.r)).length=k:=by rw [iq,gQ]; omega
  have hdrop:b.s.drop k=x::b.s.drop (k+1):=by
   rw [NT hlt];rw [bh hlt] at hx;rw [bJ hx]
  have hget:bp ((b.s.take k).map (dj g d b.r)++b.s.drop k) (k:Int)=some x:=by
   rw [aV,jn (by omega),hlen,hdrop,sJ]; rfl
  have x8:∀ y,((b.s.take k).map (dj g d b.r)++b.s.drop k).set (Int.toNat (k:Int)) y=(b.s.take k).map (dj g d b.r)++y::b.s.drop (k+1):=fun y=>by
   rw [hdrop,gP,xB _ _ (by omega),hlen,sJ]; rfl
  have htake:∀ y,dj g d b.r x=y->(b.s.take (k+1)).map (dj g d b.r)++b.s.drop (k+1)=(b.s.take k).map (dj g d b.r)++y::b.s.drop (k+1):=fun y hy=>by
   rw [bI hx,wF,cA];simp [hy]
  unfold oR;dsimp only;rw [dlt hlt,cond_true,hget,al,EV hg,al];unfold mo;have hw:=cy (k:=k) (by omega);cases ha:g.any fun y=>fa x.b y with
  | false =>
   rw [mL,cond_true,hw,htake x (by unfold dj; rw [ha]; rfl),hdrop]
  | true =>
   rw [eE,cond_false];cases d with
   | true=>rw [cond_true,al,x8,hw,htake ⟨x.b,x.t,x.v,x.l,x.u,x.a,true⟩ (by unfold dj; rw [ha]; rfl)]
   | false=>rw [cond_false,al,x8,hw,htake ⟨x.b,x.t,x.v,x.l,b.r,x.a,x.y⟩ (by unfold dj; rw [ha]; rfl)]
 ·unfold oR;dsimp only;rw [bZ,f9,Ff,jA]; rfl
theorem HP (h:Cd l) (g:List ae) (d:Bool) (rev:Int):Cd (l.map (dj g d rev)):=by
 unfold Cd;rw [Dz];exact h.imp fun {a b} hab=>by rw [xW,xW]; exact hab
theorem vI (h:Cd l) (g:List ae) (d:Bool) (rev:Int) (k:ae):bj (l.map (dj g d rev)) k=if (bj l k).2=true then (dj g d rev (bj l k).1,true) else (U8,false):=by
 have hp:=HP h g d rev;cases hf:(bj l k).2 with
 | true =>
  obtain⟨h1,h2⟩:=cB hf;rw [if_pos rfl];exact iX hp (wc h1) ((xW _ _ _ _).trans h2)
 | false =>
  obtain⟨h1,h2⟩:=rL hf;rw [if_neg (by simp)];cases hf2:(bj (l.map (dj g d rev)) k).2 with
  | true =>
   obtain⟨h3,h4⟩:=cB hf2;obtain⟨x,hx,e⟩:=cL.1 h3;exact absurd (by rw [<- h4,<- e,xW]) (h2 x hx)
  | false=>exact (rL hf2).1
structure wj (l:List aL) (rev:Int) (r:ar):Prop where
 key:∃ n,n<l.length/\r.b=rk l n
 value:r.t.size<=1000
 reads:r.v.length<=3
 good:∀ k∈r.v,og l k
 low:0<=r.l
 mid:r.l<=r.u
 high:r.u<=rev
 cost:1<=r.a/\r.a<=30000
 dirty:r.y=true->lY r.b=true
structure y8 (rev:Int) (x:be):Prop where
 key:∃ c,c<10/\x.b=bO c
 value:x.t.size<=8
 low:0<=x.l
 high:x.l<=rev
structure jo (l:List aL) (b:ap):Prop where
 rev:0<=b.r/\b.r<=1000000
 ins:∀ x∈b.i,y8 b.r x
 insA:b.i.Pairwise fun x y=>bV x.b y.b<0
 recs:∀ r∈b.s,wj l b.r r
 recsA:Cd b.s
theorem xV {α:Type} {xs:List α} {f:α->ae} (h:xs.Pairwise fun a b=>bV (f a) (f b)<0):(xs.map f).Nodup:=by
 unfold List.Nodup;rw [Dz];exact h.imp fun {a b} hab=>uh hab
theorem jo.nrec {l:List aL} (h:jo l b):b.s.length<=l.length:=by
 have h1:=kS (xV (f:=ar.b) h.recsA) (m:=(List.range l.length).map (rk l)) fun k O=>by
  obtain⟨r,hr,rfl⟩:=cL.1 O;obtain⟨n,hn,e⟩:=(h.recs r hr).key;exact cL.2 ⟨n,A1.2 hn,e.symm⟩
 simpa using h1
theorem jo.nin {l:List aL} (h:jo l b):b.i.length<=10:=by
 have h1:=kS (xV (f:=be.b) h.insA) (m:=(List.range 10).map bO) fun k O=>by
  obtain⟨r,hr,rfl⟩:=cL.1 O;obtain⟨n,hn,e⟩:=(h.ins r hr).key;exact cL.2 ⟨n,A1.2 hn,e.symm⟩
 simpa using h1
theorem jo.rm {l:List aL} (h:jo l b) (hl:l.length<=8):NY b.s/\Rm b.i.length/\LE b.s:=by
 have h1:=h.nrec;have h2:=h.nin;refine⟨⟨by unfold Rm; omega,fun r hr=>by have:=(h.recs r hr).reads; unfold Rm; omega⟩,by unfold Rm; omega,h.recsA,by omega,fun r hr=>by have:=(h.recs r hr).reads; omega⟩
end
section
open Go.Lib hiding intOf
def Bd (p:Nat->Bool):Nat->Nat
 | 0=>0
 | n+1=>Bd p n+cond (p n) 1 0
theorem Fy {p q:Nat->Bool} (h:∀ n,p n=true->q n=true):∀ N,Bd p N<=Bd q N
 | 0=>bx _
 | n+1=>by
  have:=Fy h n;show Bd p n+cond (p n) 1 0<=Bd q n+cond (q n) 1 0;cases hp:p n with
  | false=>cases q n <;> simp <;> omega
  | true=>rw [h n hp]; simp; omega
theorem Fz {p q:Nat->Bool} (h:∀ n,p n=true->q n=true) {i:Nat} (h1:p i=false) (h2:q i=true):∀ N,i<N->Bd p N<Bd q N
 | 0,h0=>absurd h0 (by omega)
 | n+1,h0=>by
  have h3:=Fy h n;show Bd p n+cond (p n) 1 0<Bd q n+cond (q n) 1 0;rcases e9 i n with h4 | h4
  ·have:=Fz h h1 h2 n h4;cases hp:p n with
   | false=>cases q n <;> simp <;> omega
   | true=>rw [h n hp]; simp; omega
  ·obtain rfl:i=n:=by omega
   rw [h1,h2]; simp; omega
theorem xI (p:Nat->Bool):∀ N,Bd p N<=N
 | 0=>bx _
 | n+1=>by
  have:=xI p n;show Bd p n+cond (p n) 1 0<=n+1;cases p n <;> simp <;> omega
noncomputable def cH (b:ap) (k:ae):Bool:=(bj b.s k).2&&decide ((bj b.s k).1.u=b.r)
def ox (b b':ap):Prop:=∀ k,cH b k=true->cH b' k=true
theorem ox.refl (b:ap):ox b b:=fun _ h=>h
theorem ox.trans {a b c:ap} (h:ox a b) (k:ox b c):ox a c:=fun x e=>k x (h x e)
def cI (m:List (ae×Bool)) (k:ae):Bool:=(cJ aB k m).getD false
section
variable {l:List aL} {V:Nat->ByteArray} {b0 b:ap}
theorem jo.find (h:jo l b) (hl:l.length<=8) (k:ae):dM b.s k=some (bj b.s k):=vW (h.rm hl).1 k
theorem jo.found (h:jo l b) {k:ae} (O:(bj b.s k).2=true):wj l b.r (bj b.s k).1/\(bj b.s k).1.b=k :=
 ⟨h.recs _ (cB O).1,(cB O).2⟩
theorem jo.rdGood (h:jo l b) {k x:ae} (hx:x∈AG b.s k):og l x:=by
 unfold AG at hx;cases O:(bj b.s k).2 with
 | true=>exact (h.found O).1.good x hx
 | false=>rw [(rL O).1] at hx; cases hx
theorem jo.put (h:jo l b) {r:ar} (hr:wj l b.r r):jo l ⟨b.r,b.i,eY b.s r⟩ :=
 ⟨h.rev,h.ins,h.insA,fun x hx=>by rcases M2 hx with hx | rfl; exact h.recs x hx; exact hr,CX h.recsA r⟩
theorem Gh (h:jo l b) {r:ar} (hr:r.u=b.r):ox b ⟨b.r,b.i,eY b.s r⟩/\cH ⟨b.r,b.i,eY b.s r⟩ r.b=true:=by
 refine⟨fun k O=>?_,?_⟩
 ·unfold cH at O ⊢;rw [xL h.recsA];split
  ·simp [hr]
  ·exact O
 ·unfold cH;rw [xL h.recsA,if_pos rfl];simp [hr]
theorem MN {rev:Int} {r:ar} (h:wj l rev r) (g:List ae) (d:Bool) (hd:d=true->∀ k∈g,lY k=true):wj l rev (dj g d rev r):=by
 unfold dj;split
 ·rename_i ha;split
  ·rename_i hdd;refine⟨h.key,h.value,h.reads,h.good,h.low,h.mid,h.high,h.cost,fun _=>?_⟩;obtain⟨x,hx,e⟩:=BA.1 ha;rw [fc] at e;show lY r.b=true;rw [e];exact hd hdd x hx
  ·exact⟨h.key,h.value,h.reads,h.good,h.low,by have:=h.mid; have:=h.high; show r.l<=rev; omega,wC _,h.cost,h.dirty⟩
 ·exact h
theorem jo.mark (h:jo l b) (g:List ae) (d:Bool) (hd:d=true->∀ k∈g,lY k=true):jo l ⟨b.r,b.i,b.s.map (dj g d b.r)⟩ :=
 ⟨h.rev,h.ins,h.insA,fun x hx=>by obtain⟨y,hy,rfl⟩:=cL.1 hx; exact MN (h.recs y hy) g d hd,HP h.recsA g d _⟩
theorem NJ (h:jo l b) (g:List ae) (d:Bool):ox b ⟨b.r,b.i,b.s.map (dj g d b.r)⟩:=fun k O=>by
 unfold cH at O ⊢;rw [lq,decide_eq_true_eq] at O;rw [vI h.recsA,if_pos O.1];unfold dj;split
 ·split
  ·simp [O.2]
  ·simp
 ·simp [O.2]
theorem Jw (h:jo l b) {g:List ae} {k:ae} (O:(bj b.s k).2=true) (hg:k∈g):cH ⟨b.r,b.i,b.s.map (dj g false b.r)⟩ k=true:=by
 unfold cH;rw [vI h.recsA,if_pos O];have e:=(h.found O).2;unfold dj;rw [if_pos (by rw [e]; exact BA.2 ⟨k,hg,Au k⟩)];simp
theorem MY {recs:List ar} {rev:Int} {k:ae} (h:wG recs rev k=true):lY k=true/\(bj recs k).2=true:=by
 unfold wG Kd at h;rw [lq,lq,lq] at h;obtain⟨h1,h2⟩:=cB h.1;rw [h2] at h;exact⟨h.2.1.1,h.1⟩
structure GD (l:List aL) (V:Nat->ByteArray) (b0:ap) (x:aM):Prop where
 sol:wK l V b0 x.S
 base:jo l x.B
 rev:x.B.r=b0.r
 ins:x.B.i=b0.i
 nd:Nd x.e
theorem O4 {b:ap} (hb:Rm b.i.length) (k:ae):sh b k=some (mX b k).l:=by
 unfold sh;rw [EU hb]; rfl
noncomputable def ot (x:aM) (k:ae):Bool:=decide (k.k=1)||(decide (k.k=2)||decide (k.k=30))||(cI x.e k&&lY k)||cH x.B k
theorem NB {x:aM} (h:jo l x.B) (hl:l.length<=8) (k:ae):jf x k=some (ot x k,x):=by
 unfold jf ot cH cI;rw [oI,al];generalize (decide (k.k=1)||(decide (k.k=2)||decide (k.k=30)))=i;have j3f:c8 x k false=some ((bj x.B.s k).2&&decide ((bj x.B.s k).1.u=x.B.r),x):=by
  unfold c8;rw [cond_false,h.find hl,al];unfold jw fT;cases (bj x.B.s k).2
  ·rfl
  ·rw [cond_true,t6];congr 2
 have j3t:c8 x k true=some (true,x):=rfl;cases i
 ·rw [cond_false,al];cases (cJ aB k x.e).getD false
  ·rw [cond_false,j3f]; rfl
  ·rw [cond_true,n8,al];cases lY k
   ·rw [j3f]; rfl
   ·rw [j3t]; rfl
 ·rw [cond_true,j3t]; rfl
variable (C:bk l) (hD:GC l (inB b0) V) (hb0:Rm b0.i.length)
include C hD hb0
end
end
section
open Go.Lib hiding intOf
noncomputable def psi (l:List aL) (x:aM):Nat:=x.z.length+Bd (fun n=>!cH x.B (rk l n)||cI x.e (rk l n)) l.length
noncomputable def Qe (l:List aL) (b:ap):Nat:=Bd (fun n=>!cH b (rk l n)) l.length
noncomputable def K8 (l:List aL) (m:List (ae×Bool)):Nat:=Bd (fun n=>!cI m (rk l n)) l.length
structure Ce (l:List aL) (V:Nat->ByteArray) (b0:ap) (x x':aM):Prop where
 ok:GD l V b0 x'
 ver:ox x.B x'.B
 busy:∀ k,cI x'.e k=cI x.e k
 psi:psi l x'<=psi l x
section
variable {l:List aL} {V:Nat->ByteArray} {b0:ap} {x y z:aM}
theorem Ce.refl (h:GD l V b0 x):Ce l V b0 x x:=⟨h,ox.refl _,fun _=>rfl,bx _⟩
theorem Ce.trans (h:Ce l V b0 x y) (k:Ce l V b0 y z):Ce l V b0 x z:=⟨k.ok,h.ver.trans k.ver,fun q=>(k.busy q).trans (h.busy q),du k.psi h.psi⟩
theorem G5 {b b':ap} {m m':List (ae×Bool)} (hv:ox b b') (hb:∀ k,cI m' k=true->cI m k=true) (N:Nat):Bd (fun n=>!cH b' (rk l n)||cI m' (rk l n)) N<=Bd (fun n=>!cH b (rk l n)||cI m (rk l n)) N:=by
 refine Fy (fun n h=>?_) N;rw [wB,sw] at h ⊢;rcases h with h | h
 ·left;cases e:cH b (rk l n) with
  | false=>rfl
  | true=>rw [hv _ e] at h; cases h
 ·exact .inr (hb _ h)
theorem Ce.base (h:GD l V b0 x) {b:ap} (hb:jo l b) (hr:b.r=x.B.r) (hi:b.i=x.B.i) (hv:ox x.B b) {s:aA} (hs:wK l V b0 s):Ce l V b0 x ⟨s,b,x.e,x.z,x.E⟩ :=
 ⟨⟨hs,hb,hr.trans h.rev,hi.trans h.ins,h.nd⟩,hv,fun _=>rfl,Nat.add_le_add_left (G5 hv (fun _ e=>e) _) _⟩
theorem GZ {recs:List ar} {g h:List ae} {c:dD} (hc:c∈dH recs g h):c.s1∈AG recs c.r1:=by
 unfold dH IS at hc;obtain⟨m,_,hm⟩:=List.mem_flatMap.1 hc;obtain⟨y,hy,rfl⟩:=cL.1 hm;exact (gC.1 hy).1
theorem AB {m m':List (ae×Bool)} (h:∀ k,cI m' k=cI m k):K8 l m'=K8 l m:=by
 unfold K8;congr 1;funext n;rw [h]
theorem HA {n:Nat}:(decide ((rk l n).k=1)||(decide ((rk l n).k=2)||decide ((rk l n).k=30)))=false:=bJ ((oI _).symm.trans oW)
theorem yF {n:Nat}:(decide ((bO n).k=1)||(decide ((bO n).k=2)||decide ((bO n).k=30)))=true:=bJ ((oI _).symm.trans mS)
abbrev LF (rev:Int) (ins:List be) (recs:List ar) (busy:List (ae×Bool)) (ran:List ae) (e:Int) (rules:List aL) (srev:Int) (sins:List be) (srecs:List ar) (memo:List (ae×ByteArray)) (seen:List (ae×(List ae))):aM :=
 aM.mk (aA.mk rules (ap.mk srev sins srecs) memo seen) (ap.mk rev ins recs) busy ran e
section
variable {urec:aM->ae->Option aM} {f n:Nat} (C:bk l) (hD:GC l (inB b0) V) (hb0:Rm b0.i.length) (hn:n<l.length) (hx:GD l V b0 x) (hp:psi l x<=8) (hf:K8 l x.e<f)
include C hD hb0 hn hx hp hf
end
end
end
section
open Go.Lib hiding intOf
theorem I7 {n:Nat} (h:n<65536):(cV (n:Int)).size<=1000:=by
 have h1:(cV n).size=(itoa n).length:=by simp [cV,ByteArray.size]
 have:=zE n 9 (by omega);rw [h1,oJ]; omega
section
variable {l:List aL} {V:Nat->ByteArray} {b0:ap} {x y z:aM}
structure WC (l:List aL) (V:Nat->ByteArray) (b0:ap) (x:aM) (k:ae) (x':aM):Prop where
 ok:GD l V b0 x'
 ver:ox x.B x'.B
 busy:∀ k,cI x'.e k=cI x.e k
 psi:(x'.E=0/\psi l x'<=psi l x+1/\cH x'.B k=true)∨(x'.E≠0/\psi l x'<=psi l x)
section
variable {urec:aM->ae->Option aM} {f n:Nat} {r:aL} (C:bk l) (hD:GC l (inB b0) V) (hb0:Rm b0.i.length) (hn:l[n]? = some r) (hp:psi l x<=8) (hf:K8 l x.e<f)
include C hD hb0 hn hp hf
end
theorem tp (m:List (ae×Bool)) (k j:ae):cI (ew aB k true m) j=(decide (j=k)||cI m j):=by
 unfold cI;by_cases e:j=k
 ·subst e;rw [iz]; simp
 ·rw [mZ e]; simp [e]
theorem zj {m:List (ae×Bool)} (h:Nd m) (k j:ae):cI (tK aB k m) j=(!decide (j=k)&&cI m j):=by
 unfold cI;rw [MP dI j k h];by_cases e:j=k
 ·subst e;rw [HG]; simp
 ·rw [MB e]; simp [e]
section
variable {urec:aM->ae->Option aM} {f n:Nat} (C:bk l) (hD:GC l (inB b0) V) (hb0:Rm b0.i.length) (hn:n<l.length) (hx:GD l V b0 x) (hp:psi l x<=8) (hf:K8 l x.e<f+1)
include C hD hb0 hn hx hp hf
end
end
end
section
open Go.Lib hiding intOf
theorem dX {ρ:Type} {B:Int->Option (Fl Int ρ)} {r:ρ} (n:Nat) (hgo:∀ k,k<n->B (k:Int)=some (.go ((k+1:Nat):Int))) (hn:B (n:Int)=some (.out r)):loop B 0=some r :=
 o7 (B:=B) (fun k=>(k:Int)) n rfl hgo hn
section
variable {l:List aL} {b:ap}
theorem Le (hl:l.length<=8) {rev:Int} (hrev:rev<=1000000) {r:ar} (h:wj l rev r):sg r=some true:=by
 obtain⟨n,hn,O⟩:=h.key;have h3:=h.reads;have h4:=h.value;have h5:=h.low;have h6:=h.mid;have h7:=h.high;have h8:=h.cost;unfold sg;refine jJ (dX (r:=Fl.go ()) r.v.length (fun k O=>?_) ?_) ?_
 ·unfold nh;rw [dlt O,cond_true,bB O,al,(h.good _ (dG O)).valid hl,al,cy (by omega)];rfl
 ·unfold nh;rw [bZ]; rfl
 ·show ne r=some true;unfold ne;rw [O,C8 (by omega),al,cond_true,oW,al,decide_eq_true (by omega),decide_eq_true (by omega),decide_eq_true (by omega),decide_eq_true (by omega),decide_eq_true (by omega),decide_eq_true (by omega),decide_eq_true (by omega)];simp only [mL,cond_true];rw [n8,al];unfold cX;cases hd:r.y with
  | false=>rfl
  | true =>
   have:=h.dirty hd;rw [O] at this;rw [this]; rfl
theorem Ii (h:jo l b) (hl:l.length<=8):gZ b.s=some true:=by
 have hn:=h.nrec;unfold gZ;refine jJ (dX (r:=Fl.go ()) b.s.length (fun k O=>?_) ?_) ?_
 ·unfold i8;rw [dlt O,cond_true,bB O,al,Le hl h.rev.2 (h.recs _ (dG O)),al];have hj:eL (k:Int) false=some (.go ((k+1:Nat):Int)):=by unfold eL; rw [cy (by omega)]; rfl
  simp only [eE,cond_false];rcases A3 k with h0 | h0
  ·subst h0;exact hj
  ·rw [decide_eq_true (by omega),cond_true,show IntKind.i64.wrap ((k:Int)-1)=((k-1:Nat):Int) by rw [ki (by omega) (by omega)]; omega,bB (show k-1<b.s.length by omega),al,rF,al];have:=eC.1 h.recsA (k-1) k (by omega) O (by omega);rw [decide_eq_false (by omega)];exact hj
 ·unfold i8;rw [bZ]; rfl
 ·show some (decide ((b.s.length:Int)<=4000))=some true;rw [decide_eq_true (by omega)]
theorem Gg (h:jo l b) (hl:l.length<=8):pS b=some true:=by
 have hn:=h.nrec;have hi:=h.nin;have hrev:=h.rev;unfold pS;refine jJ (dX (r:=Fl.go ()) b.i.length (fun k O=>?_) ?_) ?_
 ·have hx:=h.ins _ (dG O);obtain⟨c,hc,hkey⟩:=hx.key;have h1:=hx.value;have h2:=hx.low;have h3:=hx.high;unfold np;rw [dlt O,cond_true,bB O,al,hkey,vC (by omega),al];have hj:df (k:Int) false=some (.go ((k+1:Nat):Int)):=by unfold df; rw [cy (by omega)]; rfl
  simp only [eE,cond_false];rw [mS,al];simp only [eE,cond_false];rw [decide_eq_false (show ¬ (1073741824:Int)<(b.i[k].t.size:Int) by omega),decide_eq_false (show ¬ (b.i[k].l:Int)<0 by omega),decide_eq_false (show ¬ (b.r:Int)<b.i[k].l by omega)];rcases A3 k with h0 | h0
  ·subst h0;exact hj
  ·rw [decide_eq_true (by omega),cond_true,show IntKind.i64.wrap ((k:Int)-1)=((k-1:Nat):Int) by rw [ki (by omega) (by omega)]; omega,bB (show k-1<b.i.length by omega),al,rF,al];have:=eC.1 h.insA (k-1) k (by omega) O (by omega);rw [hkey] at this;rw [decide_eq_false (by omega)];exact hj
 ·unfold np;rw [bZ]; rfl
 ·show nk b=some true;unfold nk;refine jJ (dX (r:=Fl.go ()) b.s.length (fun k O=>?_) ?_) ?_
  ·have:=(h.recs _ (dG O)).high;unfold nn;rw [dlt O,cond_true,bB O,al,decide_eq_false (by omega),cy (by omega)]; rfl
  ·unfold nn;rw [bZ]; rfl
  ·show nj b=some true;unfold nj;rw [decide_eq_true hrev.1,decide_eq_true (by omega),decide_eq_true (by omega),Ii h hl]; rfl
theorem Nf (hl:l.length<=8) {k:ae} (O:og l k):si l k=some true:=by
 unfold si;rw [O.valid hl,al,cond_true];rcases O with⟨c,hc,rfl⟩|⟨n,hn,rfl⟩
 ·rfl
 ·have h1:∀ q,gz ((q:ae).k==q.k&&q.x.toList==q.x.toList)=some true:=fun q=>by unfold gz; simp
  rcases rV (l:=l) (n:=n) with⟨h,_⟩|⟨h,_⟩
  ·rw [show ((rk l n).k != 31)=false by rw [h]; rfl,cond_false,rE,al,AR (by omega),Bs hn (by omega),al];exact h1 _
  ·rw [show ((rk l n).k != 31)=true by rw [h]; rfl,cond_true,show ((rk l n).k != 32)=false by rw [h]; rfl,cond_false,rE,al,AR (by omega),Bs hn (by omega),al];exact h1 _
theorem Og (C:bk l) (h:jo l b) {goals:List ae} (hg:∀ k∈goals,og l k) (hn:goals.length<=32):sm l b goals=some 0:=by
 have hl:=C.high;unfold sm;rw [Lg C.bnd,CP C,al];simp only [eE,cond_false];rw [Gg h hl,al,decide_eq_false (by omega)];simp only [eE,cond_false];refine jJ (dX (r:=Fl.go ()) goals.length (fun k O=>?_) ?_) rfl
 ·unfold nw;rw [dlt O,cond_true,bB O,al,Nf hl (hg _ (dG O)),al,cy (by omega)]; rfl
 ·unfold nw;rw [bZ]; rfl
structure Qn (l:List aL) (b b':ap):Prop where
 ok:jo l b'
 rev:b'.r=b.r
 ins:b'.i=b.i
theorem OE (C:bk l) {d:List Int} {i:Int} (hd:di d i):Ok (vc ⟨d,i⟩ l) fun y=>og l y.1/\di y.2.L y.2.k1:=by
 have hl:=C.high;have h2l:=C.low;unfold vc;refine aP (fJ hd (by omega) (by omega)) fun y ⟨_,_,d1⟩=>aS (fun _=>?_) (fun _=>?_)
 ·refine aP (fJ d1 (by omega) (by omega)) fun z ⟨z1,z2,d2⟩=>?_;obtain⟨c,hc⟩:∃ c:Nat,z.1=c:=⟨z.1.toNat,by omega⟩;rw [hc];exact aX (vU (by omega)) (aq ⟨.inl ⟨c,by omega,rfl⟩,d2⟩)
 ·refine aP (fJ d1 (by omega) (by omega)) fun z ⟨z1,z2,d2⟩=>aS (fun _=>?_) (fun _=>?_)
  ·refine aP (fJ d2 (by omega) (by omega)) fun w ⟨w1,w2,d3⟩=>?_;have e1:IntKind.i64.wrap ((l.length:Int)-1)=(l.length:Int)-1:=ki (by omega) (by omega);rw [e1,ki (by omega) (by omega)];obtain⟨c,hc⟩:∃ c:Nat,(l.length:Int)-1-w.1=c:=⟨((l.length:Int)-1-w.1).toNat,by omega⟩;rw [hc];exact aX (Bs (by omega) (by omega)) (aq ⟨.inr ⟨c,by omega,rfl⟩,d3⟩)
  ·refine aP (fJ d2 (by omega) (by omega)) fun w ⟨w1,w2,d3⟩=>?_;obtain⟨c,hc⟩:∃ c:Nat,w.1=c:=⟨w.1.toNat,by omega⟩;rw [hc];exact aX (Bs (by omega) (by omega)) (aq ⟨.inr ⟨c,by omega,rfl⟩,d3⟩)
theorem Hu (C:bk l) {d:List Int} {i:Int} (hd:di d i) {most:Int} (h1:1<=most) (h2:most<=30):Ok (ro ⟨d,i⟩ l most) fun y=>(∀ k∈y.1,og l k)/\y.1.length<=32/\di y.2.L y.2.k1:=by
 unfold ro;refine aP (fJ hd h1 (by omega)) fun y ⟨y1,y2,d1⟩=>?_;rw [ki (by omega) (by omega)];refine bL (fun (k:Nat) (s:(List ae)×Int×(List Int)×Int)=>(∀ q∈s.1,og l q)/\s.1.length=k/\s.2.1=y.1+1-k/\di s.2.2.1 s.2.2.2) (fun r=>(∀ q∈r.1,og l q)/\r.1.length<=32/\di r.2.1 r.2.2) 31 ⟨fun q hq=>absurd hq cF,rfl,by simp,d1⟩ ?_ (fun r hr=>aq hr);rintro k ⟨gs,c,d,i⟩ O ⟨g1,g2,g3,g4⟩;dsimp only at g1 g2 g3 g4 ⊢;unfold rN;refine aS (fun hc=>?_) (fun _=>aq ⟨g1,by show gs.length<=32; omega,g4⟩);have hc:=of_decide_eq_true hc;refine aP (OE C g4) fun z ⟨z1,z2⟩=>cY (eZ (by simp; omega)) (aq ⟨by omega,?_,by rw [br,g2]; rfl,?_,z2⟩)
 ·intro q hq;rcases cM.1 hq with hq | hq
  ·exact g1 q hq
  ·rw [cp.1 hq]; exact z1
 ·show IntKind.i64.wrap (c-1)=_;rw [ki (by omega) (by omega)]; omega
end
end
section
open Go.Lib hiding intOf
section
variable {l:List aL} {V:Nat->ByteArray} {b0 b:ap}
end
end
section
open Go.Lib hiding intOf
section
variable {l:List aL} {b:ap} {V:Nat->ByteArray}
theorem jo.filter (h:jo l b) (p:ar->Bool):jo l (ap.mk b.r b.i (b.s.filter p)) :=
 ⟨h.rev,h.ins,h.insA,fun r hr=>h.recs r (gC.1 hr).1,List.Pairwise.sublist List.filter_sublist h.recsA⟩
end
end
section
open Go.Lib hiding intOf
def y7 (l:List be):Prop:=l.Pairwise fun a b=>bV a.b b.b<0
def wH (l:List be) (r:be):List be:=(l.filter fun x=>decide (bV x.b r.b<0))++r::(l.filter fun x=>decide (0<bV x.b r.b))
theorem zL {l:List be} {r x:be}:x∈wH l r↔x=r∨(x∈l/\x.b≠r.b):=by
 unfold wH;rw [cM,bC,gC,gC];simp only [decide_eq_true_eq];constructor
 ·rintro (⟨h,h1⟩ | h | ⟨h,h1⟩)
  ·exact .inr ⟨h,uh h1⟩
  ·exact .inl h
  ·exact .inr ⟨h,fun e=>by rw [e,u5] at h1; omega⟩
 ·rintro (h | ⟨h,h1⟩)
  ·exact .inr (.inl h)
  ·rcases u6 x.b r.b with h2 | h2 | h2
   ·exact .inl ⟨h,h2⟩
   ·exact absurd h2 h1
   ·exact .inr (.inr ⟨h,qo.2 h2⟩)
theorem HZ {l:List be} (h:y7 l) (r:be):y7 (wH l r):=by
 unfold y7 wH;rw [lT];refine⟨It _ h,jl.2 ⟨fun x hx=>?_,It _ h⟩,fun x hx y hy=>?_⟩
 ·have:=(gC.1 hx).2;simp only [decide_eq_true_eq] at this;exact qo.1 this
 ·have h1:=(gC.1 hx).2;simp only [decide_eq_true_eq] at h1;rcases bC.1 hy with rfl | hy
  ·exact h1
  ·have h2:=(gC.1 hy).2;simp only [decide_eq_true_eq] at h2;exact lC h1 (qo.1 h2)
theorem LX {l:List be} (h:y7 l) {x y:be} (hx:x∈l) (hy:y∈l) (e:x.b=y.b):x=y:=by
 induction l with
 | nil=>cases hx
 | cons z m ih =>
  have h':=jl.1 h;rcases bC.1 hx with e1 | h1
  ·rcases bC.1 hy with e2 | h2
   ·rw [e1,e2]
   ·subst e1; exact absurd e (uh (h'.1 y h2))
  ·rcases bC.1 hy with e2 | h2
   ·subst e2; exact absurd e.symm (uh (h'.1 x h1))
   ·exact ih h'.2 h1 h2
theorem Ay {i j:Nat} (h:i<=j) (hj:j<=1000000000):IntKind.i64.wrap (cS .u64 (IntKind.u64.wrap (IntKind.i64.wrap ((i:Int)+j))) 1)=(((i+j) / 2:Nat):Int):=by
 have e:IntKind.i64.wrap ((i:Int)+j)=((i+j:Nat):Int):=by rw [ki (by omega) (by omega)]; omega
 have e2:IntKind.u64.wrap ((i+j:Nat):Int)=((i+j:Nat):Int):=by simp [IntKind.wrap,IntKind.bits,IntKind.signed]; omega
 have e3:cS .u64 ((i+j:Nat):Int) 1=(((i+j) / 2:Nat):Int):=by
  have:cS .u64 ((i+j:Nat):Int) 1=Int.fdiv ((i+j:Nat):Int) 2:=rfl;rw [this,NS _ (by omega)];omega
 rw [e,e2,e3,ki (by omega) (by omega)]
theorem Ld {l:List be} {r:be} (h:y7 l) (hl:Rm l.length) {u:ap} (hrev:IntKind.i64.wrap (u.r+1)=r.l) (g:Int) :
  ((loop (fun s:(List be)×Bool×Int=>gw u l (ci.mk r.b r.t) s.1 s.2.1 s.2.2) (([]:List be),false,0)).bind fun q=>fk u g (ci.mk r.b r.t) q.1 q.2)=fj g (wH l r):=by
 unfold Rm at hl;have hpl:∀ i,((l.take i).filter fun x=>decide (bV x.b r.b<0)).length+((l.take i).filter fun x=>decide (0<bV x.b r.b)).length<=l.length:=fun i=>by
  have h1:∀ m:List be,(m.filter fun x=>decide (bV x.b r.b<0)).length+(m.filter fun x=>decide (0<bV x.b r.b)).length<=m.length:=by
   intro m
   induction m with
   | nil=>simp
   | cons y m ih =>
    by_cases a:bV y.b r.b<0
    ·rw [xF (by simpa using a),t7 (by simp; omega)]; simp only [dx]; omega
    ·by_cases b:0<bV y.b r.b
     ·rw [t7 (by simpa using a),xF (by simpa using b)]; simp only [dx]; omega
     ·rw [t7 (by simpa using a),t7 (by simpa using b)]; simp only [dx]; omega
  have:=h1 (l.take i);rw [gQ] at this; omega
 have key:Ok ((loop (fun s:(List be)×Bool×Int=>gw u l (ci.mk r.b r.t) s.1 s.2.1 s.2.2) (([]:List be),false,0)).bind fun q=>fk u g (ci.mk r.b r.t) q.1 q.2) fun y=>fj g (wH l r)=some y:=by
  refine bL (fun n t=>n<=l.length/\t.2.2=(n:Int)/\((t.1=l.take n/\t.2.1=false/\∀ x∈l.take n,bV x.b r.b<0)∨(t.1=wH (l.take n) r/\t.2.1=true/\∃ x∈l.take n,¬ bV x.b r.b<0)))
   (fun t=>(t.1=l/\t.2=false/\∀ x∈l,bV x.b r.b<0)∨(t.1=wH l r/\t.2=true)) l.length ⟨cT _,rfl,.inl ⟨rfl,rfl,by simp⟩⟩ (fun n t hn hI=>?_) (fun t ht=>?_)
  ·obtain⟨out,put,i⟩:=t;obtain⟨_,h1,h2⟩:=hI;dsimp only at h1 h2;subst h1;unfold gw;dsimp only;by_cases hi:n<l.length
   ·have hx:l[n]? = some l[n]:=bh hi;obtain⟨x,hxe⟩:∃ x,x=l[n]:=⟨_,rfl⟩;rw [<- hxe] at hx;rw [dlt hi,cond_true,aV,hx,al,rF,al];have tk:=bI hx;have hle:=hpl n;rcases h2 with⟨rfl,rfl,h3⟩|⟨rfl,rfl,y,hy,h3⟩
    ·have e0:((l.take n).filter fun x=>decide (bV x.b r.b<0))=l.take n:=xG.2 fun x hx=>by simpa using h3 x hx
     have e1:((l.take n).filter fun x=>decide (0<bV x.b r.b))=[]:=Iy.2 fun x hx=>by have:=h3 x hx; simp; omega
     rcases tH x.b r.b with hc | hc | hc
     ·rw [hc];unfold gv gt gr;dsimp only;simp only [hrev];rw [show cm ((l.take n).length+[x].length)=true from eZ (by simp; omega),cy (by omega)];refine aq ⟨hi,hi,rfl,.inl ⟨tk.symm,rfl,fun z hz=>?_⟩⟩;rw [tk] at hz;rcases cM.1 hz with hz | hz
      ·exact h3 z hz
      ·simp only [bC,cF,or_false] at hz; subst hz; omega
     ·rw [hc];unfold gv gt gr;dsimp only;simp only [hrev];rw [cy (by omega)];rw [show cm ((l.take n).length+[r].length)=true from eZ (by simp; omega)];refine aq ⟨hi,hi,rfl,.inr ⟨?_,rfl,x,by rw [tk]; simp,by omega⟩⟩;unfold wH;rw [tk,ux,ux,e0,e1];simp [hc]
     ·rw [hc];unfold gv gt gr;dsimp only;simp only [hrev];rw [cy (by omega)];rw [show cm ((l.take n).length+[r].length)=true from eZ (by simp; omega),show cm ((l.take n++[r]).length+[x].length)=true from eZ (by simp; omega)];refine aq ⟨hi,hi,rfl,.inr ⟨?_,rfl,x,by rw [tk]; simp,by omega⟩⟩;unfold wH;rw [tk,ux,ux,e0,e1];simp [hc]
    ·have hyx:bV y.b x.b<0:=by
      obtain⟨j,hj⟩:=dt.1 hy;rw [pY] at hj;split at hj
      ·rename_i hjn;obtain⟨q1,q2⟩:=bR.1 hj;have:=eC.1 h j n q1 hi hjn;rw [q2,<- hxe] at this; exact this
      ·cases hj
     have hc:0<bV x.b r.b:=by
      rw [qo];exact oK (b:=y.b) h3 hyx
     have hc1:bV x.b r.b=1:=by rcases tH x.b r.b with h | h | h <;> omega
     rw [hc1];unfold gv gt gr;dsimp only;simp only [hrev];rw [cy (by omega),show cm ((wH (l.take n) r).length+[x].length)=true from eZ (by unfold wH; simp only [br,dx,ma]; omega)];refine aq ⟨hi,hi,rfl,.inr ⟨?_,rfl,y,by rw [tk]; exact mb _ hy,h3⟩⟩;unfold wH;rw [tk,ux,ux];simp [hc1]
   ·have hn2:n=l.length:=by omega
    rw [hn2,bZ,cond_false];rw [hn2,f9] at h2;refine aq ?_;rcases h2 with⟨a,b,c⟩|⟨a,b,c⟩
    ·exact .inl ⟨a,b,c⟩
    ·exact .inr ⟨a,b⟩
  ·obtain⟨out,put⟩:=t;dsimp only at ht ⊢;unfold fk;dsimp only;simp only [hrev];rcases ht with⟨rfl,rfl,h3⟩|⟨rfl,rfl⟩
   ·simp only [mL,cond_true];rw [show cm (out.length+[r].length)=true from eZ (by simp; omega)];refine⟨_,rfl,?_⟩;unfold wH;rw [xG.2 fun x hx=>by simpa using h3 x hx,Iy.2 fun x hx=>by have:=h3 x hx; simp; omega];rfl
   ·exact⟨_,rfl,rfl⟩
 obtain⟨y,e,e2⟩:=key;exact e.trans e2.symm
end
section
open Go.Lib hiding intOf
structure LH (c:ci):Prop where
 key:∃ n,n<10/\c.b=bO n
 value:c.t.size<=8
theorem y8.le {rev rev':Int} {x:be} (h:y8 rev x) (hl:rev<=rev'):y8 rev' x:=⟨h.key,h.value,h.low,by have:=h.high; omega⟩
section
variable {l:List aL} {b:ap}
theorem wj.le {rev rev':Int} {r:ar} (h:wj l rev r) (hl:rev<=rev'):wj l rev' r:=⟨h.key,h.value,h.reads,h.good,h.low,h.mid,by have:=h.high; omega,h.cost,h.dirty⟩
theorem jo.rise (h:jo l b) (hr:b.r+1<=1000000) {ins:List be} (h1:y7 ins) (h2:∀ x∈ins,y8 (b.r+1) x):jo l (ap.mk (b.r+1) ins b.s) :=
 ⟨⟨by have:=h.rev; show 0<=b.r+1; omega,hr⟩,h2,h1,fun r hm=>(h.recs r hm).le (by show b.r<=b.r+1; omega),h.recsA⟩
theorem OX {ins:List be} {rev:Int} (h:∀ x∈ins,y8 rev x) {x:be} (hx:y8 rev x):∀ y∈wH ins x,y8 rev y:=fun y hy=>by
 rcases zL.1 hy with rfl | ⟨hy,_⟩
 ·exact hx
 ·exact h y hy
theorem JY {ins:List be} (h1:y7 ins) {rev:Int} (h2:∀ x∈ins,y8 rev x):ins.length<=10:=by
 have h3:=kS (xV (f:=be.b) h1) (m:=(List.range 10).map bO) fun k O=>by
  obtain⟨r,hr,rfl⟩:=cL.1 O;obtain⟨n,hn,e⟩:=(h2 r hr).key;exact cL.2 ⟨n,A1.2 hn,e.symm⟩
 simpa using h3
theorem KJ {d:List Int} {i:Int} (hd:di d i):Ok (r9 ⟨d,i⟩) fun y=>LH y.1/\di y.2.L y.2.k1:=by
 unfold r9;refine aP (fJ hd (by omega) (by omega)) fun y ⟨y1,y2,d1⟩=>?_;obtain⟨c,hc⟩:∃ c:Nat,y.1=c:=⟨y.1.toNat,by omega⟩;rw [hc];refine aX (vU (by omega)) (aP (Ph d1 (by simp) (by simp)) fun w ⟨w1,d2⟩=>aq ⟨⟨⟨c,by omega,rfl⟩,?_⟩,d2⟩);have:∀ s∈[(ByteArray.mk #[48]),(ByteArray.mk #[49]),(ByteArray.mk #[50]),(ByteArray.mk #[51]),(ByteArray.mk #[55]),(ByteArray.mk #[49,48,48]),cu,(ByteArray.mk #[120]),(ByteArray.mk #[49,54]),(ByteArray.mk #[49])],s.size<=8:=by decide
 exact this _ w1
theorem Cm {d:List Int} {i:Int} (hd:di d i) {most:Int} (h1:0<=most) (h2:most<=30):Ok (nW ⟨d,i⟩ most) fun y=>(∀ c∈y.1,LH c)/\(y.1.length:Int)<=most/\di y.2.L y.2.k1:=by
 unfold nW;rw [ki (by omega) (by omega)];refine aP (fJ hd (by omega) (by omega)) fun y ⟨y1,y2,d1⟩=>?_;refine bL (fun (k:Nat) (s:(List ci)×Int×(List Int)×Int)=>(∀ q∈s.1,LH q)/\s.1.length=k/\s.2.1=y.1-k/\0<=s.2.1/\di s.2.2.1 s.2.2.2) (fun r=>(∀ q∈r.1,LH q)/\(r.1.length:Int)<=most/\di r.2.1 r.2.2) 31 ⟨fun q hq=>absurd hq cF,rfl,by simp,y1,d1⟩ ?_ (fun r hr=>aq hr);rintro k ⟨gs,c,d,i⟩ O ⟨g1,g2,g3,g3',g4⟩;dsimp only at g1 g2 g3 g3' g4 ⊢;unfold o9;refine aS (fun hc=>?_) (fun _=>aq ⟨g1,by show (gs.length:Int)<=most; omega,g4⟩);have hc:=of_decide_eq_true hc;have hw:IntKind.i64.wrap (c-1)=c-1:=ki (by omega) (by omega);refine aP (KJ g4) fun z ⟨z1,z2⟩=>cY (eZ (by simp; omega)) (aq ⟨by omega,?_,by rw [br,g2]; rfl,?_,?_,z2⟩)
 ·intro q hq;rcases cM.1 hq with hq | hq
  ·exact g1 q hq
  ·rw [cp.1 hq]; exact z1
 ·show IntKind.i64.wrap (c-1)=_;rw [hw]; omega
 ·show 0<=IntKind.i64.wrap (c-1);rw [hw]; omega
end
end
section
open Go.Lib hiding intOf
theorem KQ {s:List ae} (h:Rm s.length):pC s=some s:=by
 unfold pC Rm at *;rw [show cm (([]:List ae).length+s.length)=true from eZ (by simp; omega)]; rfl
theorem KR {s:List ar} (h:Rm s.length):qh s=some s:=by
 unfold qh Rm at *;rw [show cm (([]:List ar).length+s.length)=true from eZ (by simp; omega)]; rfl
theorem F3 {r:ar} (h:Rm r.v.length):pp r=some r:=by
 unfold pp;rw [KQ h]; rfl
theorem JO {l:List ar} (h:NY l):pM l=some l:=by
 unfold pM;rw [KR h.1,al];refine jJ (eh (xs:=l) (fun k=>(l,(k:Int))) rfl (r:=l) (fun k x hx=>?_) ?_) rfl
 ·unfold m6;dsimp only;rw [iU hx,cond_true,aV,hx,al,F3 (h.2 x (az hx)),cy (by have:=aU hx; have:=h.1; unfold Rm at this; omega)];simp only [al,gP];rw [Nr hx]
 ·unfold m6;dsimp only;rw [bZ]; rfl
theorem K6 (k:ae):tI k=some (lY k):=by
 unfold tI it qt lY me eH ff mI;have hb:∀ n:Int,((k.k:Int)==n)=decide (k.k=n):=fun n=>by rw [KA]; simp
 rw [hb,hb,hb,hb,hb];by_cases h32:k.k=32
 ·simp [h32]
 ·by_cases h7:k.k=7
  ·simp [h7]
  ·by_cases h14:k.k=14
   ·simp [h14]
   ·by_cases h17:k.k=17
    ·simp [h17]
    ·by_cases h18:k.k=18
     ·simp [h18]
     ·simp only [h32,h7,h14,h17,h18,decide_false,Bool.or_false,cond_false];cases decide ((1:Int)<=k.k) <;> cases decide ((k.k:Int)<=22) <;> rfl
section
variable {l:List aL} {b:ap}
theorem Mt {ins:List be} (hl:Rm ins.length) (k:ae):cz (fun x0=>dQ x0 k) ins=some (if ins.findIdx (fun x=>fa x.b k)<ins.length then (ins.findIdx (fun x=>fa x.b k):Int) else -1):=by
 unfold Rm at hl;unfold cz;have hgo:∀ (i:Nat) (x:be),ins[i]? = some x->fa x.b k=false->ba ins (fun x0=>dQ x0 k) (i:Int)=some (.go ((i+1:Nat):Int)):=fun i x hx hp=>by
  unfold ba;rw [iU hx,cond_true,aV,hx,al,cy (by have:=aU hx; omega)];show (some (fa x.b k)).bind _=_;rw [hp]; rfl
 have hy:∀ (i:Nat) (x:be),ins[i]? = some x->fa x.b k=true->ba ins (fun x0=>dQ x0 k) (i:Int)=some (.out (.out (i:Int))):=fun i x hx hp=>by
  unfold ba;rw [iU hx,cond_true,aV,hx,al];show (some (fa x.b k)).bind _=_;rw [hp]; rfl
 have hn:ba ins (fun x0=>dQ x0 k) (ins.length:Int)=some (.out (.go ())):=by
  unfold ba;rw [bZ]; rfl
 have hlow:∀ i,i<ins.findIdx (fun x=>fa x.b k)->∀ x,ins[i]? = some x->fa x.b k=false:=fun i hi x hx=>by
  have h1:=JA hi;obtain⟨h2,h3⟩:=bR.1 hx;rw [<- h3];simpa using h1
 have hat:∀ x,ins[ins.findIdx (fun x=>fa x.b k)]? = some x->fa x.b k=true:=fun x hx=>by
  obtain⟨h2,h3⟩:=bR.1 hx;rw [<- h3];exact List.findIdx_getElem (p:=fun x:be=>fa x.b k) (w:=h2)
 generalize ins.findIdx (fun x=>fa x.b k)=j at hlow hat;by_cases h:j<ins.length
 ·rw [if_pos h];have e:=bh h;have hlp:=o7 (B:=fun s:Int=>ba ins (fun x0=>dQ x0 k) s) (fun i=>(i:Int)) j (s0:=0) rfl (r:=Fl.out (j:Int)) (fun i hi=>hgo i _ (bh (show i<ins.length by omega)) (hlow i hi _ (bh (show i<ins.length by omega)))) (hy j _ e (hat _ e));rw [hlp]; rfl
 ·rw [if_neg h];have hlp:=o7 (B:=fun s:Int=>ba ins (fun x0=>dQ x0 k) s) (fun i=>(i:Int)) ins.length (s0:=0) rfl (r:=Fl.go ()) (fun i hi=>hgo i _ (bh hi) (hlow i (by omega) _ (bh hi))) hn;rw [hlp]; rfl
theorem Jj (hb:Rm b.i.length) (k:ae):Ok (oV b k) fun x=>x.t=(mX b k).t/\x.l=(mX b k).l:=by
 unfold oV;refine aX (Mt hb k) ?_;unfold mX;by_cases h:b.i.findIdx (fun x=>fa x.b k)<b.i.length
 ·have e:=bh h;rw [if_pos h,decide_eq_false (by omega),cond_false];refine aX (by rw [aV]; exact e) (aq ?_);rw [List.find?_eq_getElem?_findIdx,e];exact⟨rfl,rfl⟩
 ·rw [if_neg h,show decide ((-1:Int)<0)=true from rfl,cond_true,List.find?_eq_getElem?_findIdx,vu (by omega)];exact aq ⟨rfl,rfl⟩
theorem Q6 (hb:Rm b.i.length) (k:ae):qL b k=some (mX b k).t:=by
 unfold qL;obtain⟨x,e,h,_⟩:=Jj hb k;rw [e,al,h]
theorem OP {f:ae->Option Bool} {s:List ae} (hl:Rm s.length) (h:∀ x∈s,f x=some false):oD f s=some false:=by
 unfold Rm at hl;have e:tD f s=some (-1):=by
  unfold tD;refine jJ (dX (r:=Fl.go ()) s.length (fun k O=>?_) ?_) rfl
  ·unfold oG;rw [dlt O,cond_true,bB O,al,h _ (dG O),cy (by omega)]; rfl
  ·unfold oG;rw [bZ]; rfl
 unfold oD;rw [e]; rfl
theorem OQ {f:ar->Option Bool} {s:List ar} (hl:Rm s.length) (h:∀ x∈s,f x=some false):cn f s=some false:=by
 unfold Rm at hl;have e:oH f s=some (-1):=by
  unfold oH;refine jJ (dX (r:=Fl.go ()) s.length (fun k O=>?_) ?_) rfl
  ·unfold kM;rw [dlt O,cond_true,bB O,al,h _ (dG O),cy (by omega)]; rfl
  ·unfold kM;rw [bZ]; rfl
 unfold cn;rw [e]; rfl
theorem xX {n:Nat} (h:n<100):c6 (rk l n)=some true:=by
 unfold rk;exact NI (by split <;> simp) h
theorem Bb {n:Nat} (h:n<100):c6 (bO n)=some true:=MF h
theorem Av (k:ae):nT k=cO k:=rfl
theorem og.kvalid (hl:l.length<=8) {k:ae} (h:og l k):c6 k=some true:=by
 rcases h with⟨c,hc,rfl⟩|⟨n,hn,rfl⟩
 ·exact Bb (by omega)
 ·exact xX (by omega)
theorem M7 (hl:l.length<=8) {rev:Int} (hrev:rev<=1000000) {r:ar} (h:wj l rev r):qu r=some true:=by
 obtain⟨n,hn,O⟩:=h.key;have h3:=h.reads;have h4:=h.value;have h5:=h.low;have h6:=h.mid;have h7:=h.high;have h8:=h.cost;have hj:dP r false=some true:=by
  unfold dP;rw [cond_false,decide_eq_true (by omega),decide_eq_true (by omega),decide_eq_true (by omega),decide_eq_true (by omega),decide_eq_true (by omega)];simp only [cond_true];rw [OP (by unfold Rm; omega) fun x hx=>by unfold m7; rw [(h.good x hx).kvalid hl]; rfl]; rfl
 unfold qu;rw [O,xX (by omega),al,Av,oW,al,decide_eq_false (by omega),decide_eq_false (by omega)];simp only [eE,cond_false];cases hd:r.y with
 | false=>exact hj
 | true =>
  have:=h.dirty hd;rw [O] at this;rw [cond_true,K6,this];exact hj
theorem Q9 (h:jo l b) (hl:l.length<=8):kU b.s=some true:=by
 have hn:=h.nrec;unfold kU;refine jJ (dX (r:=Fl.go ()) b.s.length (fun k O=>?_) ?_) ?_
 ·unfold il;rw [dlt O,cond_true,bB O,al,M7 hl h.rev.2 (h.recs _ (dG O)),al];have hj:ee (k:Int) false=some (.go ((k+1:Nat):Int)):=by unfold ee; rw [cy (by omega)]; rfl
  simp only [eE,cond_false];rcases A3 k with h0 | h0
  ·subst h0;exact hj
  ·rw [decide_eq_true (by omega),cond_true,show IntKind.i64.wrap ((k:Int)-1)=((k-1:Nat):Int) by rw [ki (by omega) (by omega)]; omega,bB (show k-1<b.s.length by omega),al,Fx,al];have:=eC.1 h.recsA (k-1) k (by omega) O (by omega);rw [decide_eq_false (by omega)];exact hj
 ·unfold il;rw [bZ]; rfl
 ·show some (decide ((b.s.length:Int)<=4000))=some true;rw [decide_eq_true (by omega)]
theorem Na {c:Nat} (hc:c<100):nB (bO c)=some true:=by
 unfold nB;rw [Bb hc,al,cond_true,Av,mS]; rfl
theorem Nb (h:jo l b) (hl:l.length<=8):lh b=some true:=by
 have hn:=h.nrec;have hi:=h.nin;have hrev:=h.rev;unfold lh;rw [decide_eq_false (by omega),decide_eq_false (by omega),decide_eq_false (by omega),Q9 h hl];simp only [cond_false,al,eE];refine jJ (dX (r:=Fl.go ()) b.i.length (fun k O=>?_) ?_) ?_
 ·have hx:=h.ins _ (dG O);obtain⟨c,hc,hkey⟩:=hx.key;have h1:=hx.value;have h2:=hx.low;have h3:=hx.high;unfold jT;rw [dlt O,cond_true,bB O,al,hkey,Na (by omega),al];have hj:cG (k:Int) false=some (.go ((k+1:Nat):Int)):=by unfold cG; rw [cy (by omega)]; rfl
  simp only [eE,cond_false];rw [decide_eq_false (show ¬ (1073741824:Int)<(b.i[k].t.size:Int) by omega),decide_eq_false (show ¬ (b.i[k].l:Int)<0 by omega),decide_eq_false (show ¬ (b.r:Int)<b.i[k].l by omega)];rcases A3 k with h0 | h0
  ·subst h0;exact hj
  ·rw [decide_eq_true (by omega),cond_true,show IntKind.i64.wrap ((k:Int)-1)=((k-1:Nat):Int) by rw [ki (by omega) (by omega)]; omega,bB (show k-1<b.i.length by omega),al,Fx,al];have:=eC.1 h.insA (k-1) k (by omega) O (by omega);rw [hkey] at this;rw [decide_eq_false (by omega)];exact hj
 ·unfold jT;rw [bZ]; rfl
 ·show jS b=some true;unfold jS;rw [OQ (by unfold Rm; omega) fun x hx=>by unfold li; rw [decide_eq_false (by have:=(h.recs x hx).high; omega)]]; rfl
theorem OZ (h:jo l b) (hl:l.length<=8):mp b=some b:=by
 have hi:=h.nin;unfold mp dB;rw [eZ (by simp; omega),JO (h.rm hl).1];simp [gd]
end
end
section
open Go.Lib hiding intOf
def pB (e:aj):Prop:=True
def oE (p q:aj):Int:=if bV p.X.b q.X.b≠0 then bV p.X.b q.X.b else compareBytes p.i1.toList q.i1.toList
theorem Ot (a b:Int):wT [a,b]=some (if a≠0 then a else b):=by
 unfold wT;by_cases ha:a=0
 ·subst ha;by_cases hb:b=0
  ·subst hb;rw [eV (s':=1) (by unfold kI; rfl),eV (s':=2) (by unfold kI; rfl),cR (r:=Fl.go ()) (by unfold kI; rfl)];rfl
  ·rw [eV (s':=1) (by unfold kI; rfl),cR (r:=Fl.out b) (by
    unfold kI;show cond (b != 0) _ _=_;rw [bne_iff_ne.2 hb]; rfl)]
   simp [Fl.el]
 ·rw [cR (r:=Fl.out a) (by
   unfold kI;show cond (a != 0) _ _=_;rw [bne_iff_ne.2 ha]; rfl)]
  simp [Fl.el,ha]
theorem HV {a b:aj} (ha:pB a) (hb:pB b):a7 a b=some (oE a b):=by
 unfold a7 oE;rw [Fx,al,show pE a.i1 b.i1=some (compareBytes a.i1.toList b.i1.toList) from rfl,al,Ot];rfl
theorem qs (a b:aj):oE b a = - oE a b:=by
 unfold oE;have h:=xP a.X.b b.X.b;have h2:=Fv a.i1.toList b.i1.toList;by_cases e:bV a.X.b b.X.b=0
 ·have e':bV b.X.b a.X.b=0:=by rw [h,e]; rfl
  rw [if_neg (by rw [e']; simp),if_neg (by rw [e]; simp),h2]
 ·have e':bV b.X.b a.X.b≠0:=by rw [h]; omega
  rw [if_pos e',if_pos e,h]
theorem GW {a b c:List UInt8} (h1:compareBytes a b<=0) (h2:compareBytes b c<=0):compareBytes a c<=0:=by
 by_cases e1:compareBytes a b=0
 ·rw [GV e1]; exact h2
 ·by_cases e2:compareBytes b c=0
  ·rw [<- GV e2]; exact h1
  ·have:=Ck (a:=a) (b:=b) (c:=c) (by omega) (by omega); omega
theorem tM {a b c:aj} (h1:oE a b<=0) (h2:oE b c<=0):oE a c<=0:=by
 unfold oE at *;by_cases e1:bV a.X.b b.X.b=0
 ·have k1:=B4 e1;rw [if_neg (by simp [e1])] at h1;rw [k1];by_cases e2:bV b.X.b c.X.b=0
  ·rw [if_neg (by simp [e2])] at h2 ⊢;exact GW h1 h2
  ·rw [if_pos e2] at h2 ⊢; exact h2
 ·rw [if_pos e1] at h1;by_cases e2:bV b.X.b c.X.b=0
  ·rw [<- B4 e2,if_pos e1]; exact h1
  ·rw [if_pos e2] at h2;have h3:bV a.X.b c.X.b<0:=lC (show bV a.X.b b.X.b<0 by omega) (show bV b.X.b c.X.b<0 by omega);rw [if_pos (show bV a.X.b c.X.b≠0 by omega)]; omega
section
variable {d0:List aj} (hc:∀ r∈d0,pB r) (hl:d0.length<=1000000)
include hc hl
end
end
section
open Go.Lib hiding intOf
theorem NA {d:List aj} {a b n:Nat} (h1:a+n<=b) (h2:b+n<=d.length) (hl:d.length<=1000000) (c:aj->aj->Option Int) :
  ∃ r,eJ c d (a:Int) (b:Int) (n:Int)=some r/\r.length=d.length/\∀ j,r[j]? = if a<=j/\j<a+n then d[b+(j-a)]? else if b<=j/\j<b+n then d[a+(j-b)]? else d[j]?:=by
 have key:Ok (eJ c d (a:Int) (b:Int) (n:Int)) fun r=>r.length=d.length/\∀ j,r[j]? = if a<=j/\j<a+n then d[b+(j-a)]? else if b<=j/\j<b+n then d[a+(j-b)]? else d[j]?:=by
  unfold eJ;refine bL (fun k s=>s.2=(k:Int)/\k<=n/\s.1.length=d.length/\∀ j,s.1[j]? = if a<=j/\j<a+k then d[b+(j-a)]? else if b<=j/\j<b+k then d[a+(j-b)]? else d[j]?) (fun r=>r.length=d.length/\∀ j,r[j]? = if a<=j/\j<a+n then d[b+(j-a)]? else if b<=j/\j<b+n then d[a+(j-b)]? else d[j]?) n ⟨rfl,cT _,rfl,fun j=>by rw [if_neg (by omega),if_neg (by omega)]⟩ (fun k s O hI=>?_) (fun r hr=>aq hr);obtain⟨e,i⟩:=s;obtain⟨g1,g2,g3,g4⟩:=hI;dsimp only at g1 g2 g3 g4 ⊢;subst g1;unfold lM;by_cases hlt:k<n
  ·rw [decide_eq_true (show (k:Int)<(n:Int) by omega),cond_true];have eb:IntKind.i64.wrap ((b:Int)+(k:Int))=((b+k:Nat):Int):=by rw [ki (by omega) (by omega)]; omega
   have ea:IntKind.i64.wrap ((a:Int)+(k:Int))=((a+k:Nat):Int):=by rw [ki (by omega) (by omega)]; omega
   have xb:e[b+k]? = d[b+k]?:=by rw [g4,if_neg (by omega),if_neg (by omega)]
   have xa:e[a+k]? = d[a+k]?:=by rw [g4,if_neg (by omega),if_neg (by omega)]
   have yb:d[b+k]? = some (d[b+k]'(by omega)):=bh (by omega);have ya:d[a+k]? = some (d[a+k]'(by omega)):=bh (by omega);rw [eb,ea,aV,aV,xb,xa,yb,ya,al,al,al,gP,gP,aV,Af (by omega),xb,yb,al,cy (by omega)];refine aq ⟨hlt,rfl,hlt,by rw [Fj,Fj]; exact g3,fun j=>?_⟩;rw [DN];by_cases jb:b+k=j
   ·subst jb;rw [if_pos rfl,if_pos (by rw [Fj]; omega),if_neg (by omega),if_pos (by omega),<- ya];congr 1; omega
   ·rw [if_neg jb,DN];by_cases ja:a+k=j
    ·subst ja;rw [if_pos rfl,if_pos (by omega),if_pos (by omega),<- yb];congr 1; omega
    ·rw [if_neg ja,g4];by_cases q1:a<=j/\j<a+k
     ·rw [if_pos q1,if_pos (show a<=j/\j<a+(k+1) by omega)]
     ·by_cases q2:b<=j/\j<b+k
      ·rw [if_neg q1,if_pos q2,if_neg (show ¬ (a<=j/\j<a+(k+1)) by omega),if_pos (show b<=j/\j<b+(k+1) by omega)]
      ·rw [if_neg q1,if_neg q2,if_neg (show ¬ (a<=j/\j<a+(k+1)) by omega),if_neg (show ¬ (b<=j/\j<b+(k+1)) by omega)]
  ·have:k=n:=by omega
   subst this;rw [decide_eq_false (show ¬ (k:Int)<(k:Int) by omega),cond_false];exact aq ⟨g3,g4⟩
 obtain⟨r,e,h⟩:=key;exact⟨r,e,h⟩
theorem U6 (p x q y s:List aj) (j:Nat):(p++x++q++y++s)[j]? = if j<p.length then p[j]? else if j<p.length+x.length then x[j-p.length]? else if j<p.length+x.length+q.length then q[j-(p.length+x.length)]? else if j<p.length+x.length+q.length+y.length then y[j-(p.length+x.length+q.length)]? else s[j-(p.length+x.length+q.length+y.length)]?:=by
 simp only [KB,br]
 repeat' split
 all_goals first | rfl | omega
theorem Gd {p x q y s:List aj} (hxy:x.length=y.length) (hl:(p++x++q++y++s).length<=1000000) (c:aj->aj->Option Int) :
  eJ c (p++x++q++y++s) (p.length:Int) ((p.length+x.length+q.length:Nat):Int) (x.length:Int)=some (p++y++q++x++s):=by
 obtain⟨r,e,h1,h2⟩:=NA (d:=p++x++q++y++s) (a:=p.length) (b:=p.length+x.length+q.length) (n:=x.length) (by omega) (by simp; omega) hl c;rw [e];congr 1;apply Ix;intro j;rw [h2];simp only [U6]
 repeat' split
 all_goals first | omega | rfl | (congr 1; omega)
theorem sE (c:aj->aj->Option Int) (m:Nat):∀ (N:Nat) (p x y s:List aj),x.length+y.length<=N->1<=x.length->1<=y.length->m=p.length+x.length->(p++x++y++s).length<=1000000 ->
  ((loop (fun t:(List aj)×Int×Int=>dR (m:Int) c t.1 t.2.1 t.2.2) (p++x++y++s,(x.length:Int),(y.length:Int))).bind fun r=>jH (m:Int) c r.1 r.2)=some (p++y++x++s)
 | 0,p,x,y,s,h,h1,h2,hm,hl=>by omega
 | N+1,p,x,y,s,h,h1,h2,hm,hl=>by
  have hl2:p.length+x.length+y.length+s.length<=1000000:=by simpa [my] using hl
  have em:IntKind.i64.wrap ((m:Int)-(x.length:Int))=(p.length:Int):=by rw [ki (by omega) (by omega)]; omega
  rcases Gq x.length y.length with hlt | heq | hgt
  ·-- the second part is longer
   obtain⟨y1,y2,rfl,e2⟩:∃ y1 y2,y=y1++y2/\y2.length=x.length:=⟨y.take (y.length-x.length),y.drop (y.length-x.length),(qS _ _).symm,by rw [sL]; omega⟩;rw [br] at hlt h hl2;have eb:dR (m:Int) c (p++x++(y1++y2)++s) (x.length:Int) ((y1++y2).length:Int)=some (.go (p++y2++y1++(x++s),(y2.length:Int),(y1.length:Int))):=by
    unfold dR;rw [show (((x.length:Int)) != ((y1++y2).length:Int))=true by simp; omega,cond_true,decide_eq_false (by rw [br]; omega),cond_false,em,br];rw [show IntKind.i64.wrap ((IntKind.i64.wrap ((m:Int)+((y1.length+y2.length:Nat):Int)))-(x.length:Int))=((p.length+x.length+y1.length:Nat):Int) by rw [ki (z:=(m:Int)+((y1.length+y2.length:Nat):Int)) (by omega) (by omega),ki (by omega) (by omega)]; omega];have:=Gd (p:=p) (x:=x) (q:=y1) (y:=y2) (s:=s) e2.symm (by simp; omega) c;rw [show p++x++(y1++y2)++s=p++x++y1++y2++s by simp [cA],this,al];rw [show IntKind.i64.wrap (((y1.length+y2.length:Nat):Int)-(x.length:Int))=(y1.length:Int) by rw [ki (by omega) (by omega)]; omega,e2];simp [cA]
   rw [eV (s':=(p++y2++y1++(x++s),(y2.length:Int),(y1.length:Int))) eb];rw [sE c m N p y2 y1 (x++s) (by omega) (by omega) (by omega) (by omega) (by simp; omega)];simp [cA]
  ·-- as long as each other
   have eb:dR (m:Int) c (p++x++y++s) (x.length:Int) (y.length:Int)=some (.out (p++x++y++s,(x.length:Int))):=by
    unfold dR;rw [show (((x.length:Int)) != (y.length:Int))=false by simp; omega,cond_false]
   rw [cR eb,al];unfold jH;have:=Gd (p:=p) (x:=x) (q:=[]) (y:=y) (s:=s) heq (by simp; omega) c;rw [ma,mz,<- hm,jA,jA] at this;rw [em,this]; rfl
  ·-- the first part is longer
   obtain⟨x1,x2,rfl,e1⟩:∃ x1 x2,x=x1++x2/\x1.length=y.length:=⟨x.take y.length,x.drop y.length,(qS _ _).symm,by rw [gQ]; omega⟩;rw [br] at hgt h hl2 hm;have eb:dR (m:Int) c (p++(x1++x2)++y++s) ((x1++x2).length:Int) (y.length:Int)=some (.go ((p++y)++x2++x1++s,(x2.length:Int),(x1.length:Int))):=by
    unfold dR;rw [em,show ((((x1++x2).length:Int)) != (y.length:Int))=true by simp; omega,cond_true,decide_eq_true (by rw [br]; omega),cond_true,br];have:=Gd (p:=p) (x:=x1) (q:=x2) (y:=y) (s:=s) e1 (by simp; omega) c;rw [show p++(x1++x2)++y++s=p++x1++x2++y++s by simp [cA]];rw [show p.length+x1.length+x2.length=m by omega,e1] at this;rw [this,al];rw [show IntKind.i64.wrap (((x1.length+x2.length:Nat):Int)-(y.length:Int))=(x2.length:Int) by rw [ki (by omega) (by omega)]; omega,e1]
   rw [eV (s':=((p++y)++x2++x1++s,(x2.length:Int),(x1.length:Int))) eb];rw [sE c m N (p++y) x2 x1 s (by omega) (by omega) (by omega) (by rw [br]; omega) (by simp; omega)];simp [cA]
theorem Q7 (c:aj->aj->Option Int) {p x y s:List aj} (h1:1<=x.length) (h2:1<=y.length) (hl:(p++x++y++s).length<=1000000) :
  qN c (p++x++y++s) (p.length:Int) ((p.length+x.length:Nat):Int) ((p.length+x.length+y.length:Nat):Int)=some (p++y++x++s):=by
 have hl2:p.length+x.length+y.length+s.length<=1000000:=by simpa [my] using hl
 unfold qN;rw [show IntKind.i64.wrap (((p.length+x.length:Nat):Int)-(p.length:Int))=(x.length:Int) by rw [ki (by omega) (by omega)]; omega,show IntKind.i64.wrap (((p.length+x.length+y.length:Nat):Int)-((p.length+x.length:Nat):Int))=(y.length:Int) by rw [ki (by omega) (by omega)]; omega];exact sE c _ _ p x y s (bx _) h1 h2 rfl hl
end
section
open Go.Lib hiding intOf
theorem CI {B:Int×Int->Option (Fl (Int×Int) Int)} {P:Nat->Bool} {lo hi:Nat} (hout:∀ i:Nat,B ((i:Int),(i:Int))=some (.out (i:Int)))
  (hgo:∀ i j:Nat,lo<=i->i<j->j<=hi->B ((i:Int),(j:Int))=some (.go (if P ((i+j) / 2)=true then ((((i+j) / 2+1:Nat):Int),(j:Int)) else ((i:Int),(((i+j) / 2:Nat):Int)))))
  (hmono:∀ s t,lo<=s->s<=t->t<hi->P t=true->P s=true) :
  ∀ (N i j:Nat),j-i<=N->lo<=i->i<=j->j<=hi->(∀ t,lo<=t->t<i->P t=true)->(∀ t,j<=t->t<hi->P t=false)->∃ k,i<=k/\k<=j/\loop B ((i:Int),(j:Int))=some (k:Int)/\(∀ t,lo<=t->t<k->P t=true)/\(∀ t,k<=t->t<hi->P t=false)
 | 0,i,j,h,h1,h2,h3,h4,h5=>by
  have:j=i:=by omega
  subst this;exact⟨j,bx _,bx _,cR (hout j),h4,h5⟩
 | N+1,i,j,h,h1,h2,h3,h4,h5=>by
  by_cases hlt:i<j
  ·have e:=hgo i j h1 hlt h3;cases hp:P ((i+j) / 2) with
   | true =>
    rw [hp,if_pos rfl] at e;obtain⟨k,k1,k2,k3,k4,k5⟩:=CI hout hgo hmono N ((i+j) / 2+1) j (by omega) (by omega) (by omega) h3 (fun t ht1 ht2=>hmono t ((i+j) / 2) ht1 (by omega) (by omega) hp) h5;exact⟨k,by omega,k2,by rw [eV e]; exact k3,k4,k5⟩
   | false =>
    rw [hp,if_neg (by simp)] at e;obtain⟨k,k1,k2,k3,k4,k5⟩:=CI hout hgo hmono N i ((i+j) / 2) (by omega) h1 (by omega) (by omega) h4 (fun t ht1 ht2=>by
     cases hq:P t with
     | false=>rfl
     | true =>
      have:=hmono ((i+j) / 2) t (by omega) ht1 ht2 hq;rw [hp] at this; cases this)
    exact⟨k,k1,by omega,by rw [eV e]; exact k3,k4,k5⟩
  ·have:j=i:=by omega
   subst this;exact⟨j,bx _,bx _,cR (hout j),h4,h5⟩
theorem Ko (i:Nat):∀ (y p s:List aj) (x:aj),i=p.length+1+y.length->(p++x::(y++s)).length<=1000000 ->
  loop (fun t:(List aj)×Int=>eQ (i:Int) t.1 t.2) (p++x::(y++s),(p.length:Int))=some (p++y++x::s)
 | [],p,s,x,h,hl=>by
  simp only [ma,br,dx,ow] at h hl;refine (cR (r:=p++x::s) ?_).trans (by simp);dsimp only;unfold eQ;rw [decide_eq_false (by rw [ki (by omega) (by omega)]; omega),cond_false]; rfl
 | b::y,p,s,x,h,hl=>by
  simp only [br,dx] at h hl;have e1:IntKind.i64.wrap ((p.length:Int)+1)=((p.length+1:Nat):Int):=cy (by omega);have g0:(p++x::((b::y)++s))[p.length]? = some x:=by simp
  have g1:(p++x::((b::y)++s))[p.length+1]? = some b:=by rw [jn (by omega)]; simp
  have eb:eQ (i:Int) (p++x::((b::y)++s)) (p.length:Int)=some (.go ((p++[b])++x::(y++s),(((p++[b]).length:Nat):Int))):=by
   unfold eQ;rw [decide_eq_true (by rw [ki (by omega) (by omega)]; omega),cond_true,e1,aV,aV,g1,al,g0,al,al,gP,gP,aV,Af (by omega),g1,al];congr 2;refine Prod.ext ?_ (by simp);dsimp only;rw [xB _ _ (by omega),sJ,xB _ _ (by omega),show p.length+1-p.length=1 by omega];simp
  rw [eV (s':=((p++[b])++x::(y++s),(((p++[b]).length:Nat):Int))) eb];rw [Ko i y (p++[b]) s x (by simp only [br,mM]; omega) (by simp only [br,dx,mM,ma]; omega)];simp
theorem EA (i:Nat):∀ (N:Nat) (y p s:List aj) (x:aj),y.length=N->i=p.length->(p++y++x::s).length<=1000000 ->
  loop (fun t:(List aj)×Int=>eO (i:Int) t.1 t.2) (p++y++x::s,((p.length+y.length:Nat):Int))=some (p++x::(y++s))
 | 0,y,p,s,x,hN,h,hl=>by
  have:y=[]:=wE.1 hN;subst this;refine (cR (r:=p++x::s) ?_).trans (by simp);dsimp only;unfold eO;rw [decide_eq_false (by simp only [ma]; omega),cond_false]; simp
 | N+1,y,p,s,x,hN,h,hl=>by
  obtain⟨y',b,rfl⟩:∃ y' b,y=y'++[b]:=⟨y.dropLast,y.getLast (by intro e; rw [e] at hN; cases hN),(List.dropLast_concat_getLast _).symm⟩;simp only [br,dx,ma] at hN hl;have O:(p++(y'++[b])).length=p.length+y'.length+1:=by simp only [br,dx,ma]; omega
  have e1:IntKind.i64.wrap (((p.length+(y'++[b]).length:Nat):Int)-1)=((p.length+y'.length:Nat):Int):=by rw [br,ki (by simp only [mM]; omega) (by simp only [mM]; omega)]; simp only [mM]; omega
  have g0:(p++(y'++[b])++x::s)[p.length+(y'++[b]).length]? = some x:=by
   rw [jn (by simp)]; simp
  have g1:(p++(y'++[b])++x::s)[p.length+y'.length]? = some b:=by
   rw [jm (by rw [O]; omega),jn (by omega)]; simp
  have eb:eO (i:Int) (p++(y'++[b])++x::s) ((p.length+(y'++[b]).length:Nat):Int)=some (.go (p++y'++x::(b::s),((p.length+y'.length:Nat):Int))):=by
   unfold eO;rw [decide_eq_true (by rw [br]; simp only [mM]; omega),cond_true,e1,aV,aV,g1,al,g0,al,al,gP,gP,aV,Af (by rw [br]; simp only [mM]; omega),g1,al];congr 2;refine Prod.ext ?_ rfl;dsimp only;have ek:p.length+(y'++[b]).length=(p++(y'++[b])).length:=by simp
   rw [ek,xB _ _ (bx _),sJ];rw [show p++(y'++[b])++(x::s).set 0 b=(p++y')++(b::b::s) by simp,show p.length+y'.length=(p++y').length by simp,xB _ _ (bx _),sJ];simp
  rw [eV (s':=(p++y'++x::(b::s),((p.length+y'.length:Nat):Int))) eb];rw [EA i N y' p (b::s) x (by omega) h (by simp only [br,dx]; omega)];simp
end
section
open Go.Lib hiding intOf
theorem MV {a b c:aj} (h1:oE a b<=0) (h2:oE b c<0):oE a c<0:=by
 refine DH fun h=>?_;have h3:oE c a<=0:=by rw [qs]; omega
 have h4:=tM h3 h1;rw [qs] at h4;omega
theorem MW {a b c:aj} (h1:oE a b<0) (h2:oE b c<=0):oE a c<0:=by
 refine DH fun h=>?_;have h3:oE c a<=0:=by rw [qs]; omega
 have h4:=tM h2 h3;rw [qs] at h4;omega
def wN (l:List aj):Prop:=l.Pairwise fun a b=>oE a b<=0
theorem wN.get {l:List aj} (h:wN l) {i j:Nat} {x y:aj} (hij:i<=j) (hx:l[i]? = some x) (hy:l[j]? = some y):oE x y<=0:=by
 rcases Nat.eq_or_lt_of_le hij with rfl | hlt
 ·rw [hx] at hy; injection hy with hy; subst hy;have:=qs x x; omega
 ·have h1:=(bR.1 hx);have h2:=(bR.1 hy);have:=eC.1 h i j h1.1 h2.1 hlt;rw [h1.2,h2.2] at this;exact this
theorem wN.app {a b:List aj} (ha:wN a) (hb:wN b) (h:∀ x∈a,∀ y∈b,oE x y<=0):wN (a++b):=lT.2 ⟨ha,hb,h⟩
theorem O8 (erec:(aj->aj->Option Int)->List aj->Int->Int->Int->Option (List aj)) {p y s:List aj} {x:aj} (hx:pB x) (hy:∀ r∈y,pB r) (hs:wN y) (hl:(p++x::(y++s)).length<=1000000) :
  ∃ z,dO a7 erec (p++x::(y++s)) (p.length:Int) ((p.length+1:Nat):Int) ((p.length+1+y.length:Nat):Int)=some (p++z++s)/\z.Perm (x::y)/\wN z:=by
 have hl2:p.length+1+y.length+s.length<=1000000:=by simp only [br,dx] at hl; omega
 let d:=p++x::(y++s)
 have gx:d[p.length]? = some x:=by show (p++x::(y++s))[p.length]? = _; simp
 have gy:∀ t,p.length+1<=t->t<p.length+1+y.length->d[t]? = y[t-(p.length+1)]?:=fun t h1 h2=>by
  show (p++x::(y++s))[t]? = _;rw [jn (by omega),show t-p.length=(t-(p.length+1))+1 by omega,DL,jm (by omega)]
 let P:Nat->Bool:=fun t=>match d[t]? with
  | some r=>decide (oE r x<0)
  | none=>false
 have hP:∀ t (h1:p.length+1<=t) (h2:t<p.length+1+y.length),P t=decide (oE (y[t-(p.length+1)]'(by omega)) x<0):=fun t h1 h2=>by
  show (match d[t]? with | some r=>decide (oE r x<0) | none=>false)=_;rw [gy t h1 h2,bh (by omega)]
 obtain⟨k,k1,k2,k3,k4,k5⟩:=CI (B:=fun t:Int×Int=>eR d (p.length:Int) a7 t.1 t.2) (P:=P) (lo:=p.length+1) (hi:=p.length+1+y.length) (fun i=>by
   dsimp only;unfold eR;rw [decide_eq_false (by omega),cond_false]) (fun i j h1 h2 h3=>by
   dsimp only;unfold eR;have hh:p.length+1<=(i+j) / 2:=by omega
   have hh2:(i+j) / 2<p.length+1+y.length:=by omega
   have hr:y[(i+j) / 2-(p.length+1)]? = some (y[(i+j) / 2-(p.length+1)]'(by omega)):=bh (by omega);rw [decide_eq_true (by omega),cond_true,Ay (by omega) (by omega),aV,gy _ hh hh2,hr,al,aV,gx,al,HV (hy _ (dG _)) hx,al,hP _ hh hh2];by_cases hc:oE (y[(i+j) / 2-(p.length+1)]'(by omega)) x<0
   ·rw [decide_eq_true hc,cond_true,if_pos rfl,cy (by omega)]
   ·rw [decide_eq_false hc,cond_false,if_neg (by simp)]) (fun a b h1 h2 h3 hp=>by
   rw [hP a h1 (by omega)];rw [hP b (by omega) h3] at hp;have:=of_decide_eq_true hp;exact decide_eq_true (MV (hs.get (i:=a-(p.length+1)) (j:=b-(p.length+1)) (by omega) (bh (by omega)) (bh (by omega))) this))
  (p.length+1+y.length) (p.length+1) (p.length+1+y.length) (by omega) (bx _) (by omega) (bx _) (fun t h1 h2=>by omega) (fun t h1 h2=>by omega)
 have hyk:y=y.take (k-(p.length+1))++y.drop (k-(p.length+1)):=(qS _ _).symm;have hlt:(y.take (k-(p.length+1))).length=k-(p.length+1):=by rw [gQ]; omega
 refine⟨y.take (k-(p.length+1))++x::y.drop (k-(p.length+1)),?_,?_,?_⟩
 ·unfold dO;rw [show ((IntKind.i64.wrap (((p.length+1:Nat):Int)-(p.length:Int)):Int)==1)=true by rw [ki (by omega) (by omega)]; simp; omega,cond_true];have k3':loop (fun t:Int×Int=>eR (p++x::(y++s)) (p.length:Int) a7 t.1 t.2) (((p.length+1:Nat):Int),((p.length+1+y.length:Nat):Int))=some (k:Int):=k3;rw [k3',al];unfold lQ;have hu:=Ko k (y.take (k-(p.length+1))) p (y.drop (k-(p.length+1))++s) x (by omega) (by rw [<- cA (y.take _),<- hyk]; exact hl);rw [<- cA (y.take _),<- hyk] at hu;rw [hu,al];unfold lP;simp [cA]
 ·refine List.perm_middle.trans ?_;rw [<- hyk]
 ·have hs':=hs;rw [hyk] at hs';have h1:=lT.1 hs';refine wN.app h1.1 (jl.2 ⟨fun r hr=>?_,h1.2.1⟩) fun r hr q hq=>?_
  ·obtain⟨t,ht⟩:=dt.1 hr;rw [qT] at ht;have htl:=aU ht;have:=k5 (k+t) (by omega) (by omega);rw [hP (k+t) (by omega) (by omega)] at this;have h2:=of_decide_eq_false this;have e:y[k+t-(p.length+1)]'(by omega)=r:=by
    have e1:k+t-(p.length+1)=k-(p.length+1)+t:=by omega
    exact (bR.1 (by rw [e1]; exact ht)).2
   rw [e] at h2;rw [qs]; omega
  ·have hlx:oE r x<0:=by
    obtain⟨t,ht⟩:=dt.1 hr;have htl:=aU ht;rw [hlt] at htl;rw [pY,if_pos htl] at ht;have:=k4 (p.length+1+t) (by omega) (by omega);rw [hP (p.length+1+t) (by omega) (by omega)] at this;have h2:=of_decide_eq_true this;have e:y[p.length+1+t-(p.length+1)]'(by omega)=r:=by
     have e1:p.length+1+t-(p.length+1)=t:=by omega
     exact (bR.1 (by rw [e1]; exact ht)).2
    rw [e] at h2;exact h2
   rcases bC.1 hq with rfl | hq
   ·omega
   ·exact h1.2.2 r hr q hq
theorem O9 (erec:(aj->aj->Option Int)->List aj->Int->Int->Int->Option (List aj)) {p y s:List aj} {x:aj} (hx:pB x) (hy:∀ r∈y,pB r) (hs:wN y) (h2y:2<=y.length) (hl:(p++y++x::s).length<=1000000) :
  ∃ z,dO a7 erec (p++y++x::s) (p.length:Int) ((p.length+y.length:Nat):Int) ((p.length+y.length+1:Nat):Int)=some (p++z++s)/\z.Perm (y++[x])/\wN z:=by
 have hl2:p.length+1+y.length+s.length<=1000000:=by simp only [br,dx] at hl; omega
 let d:=p++y++x::s
 have gx:d[p.length+y.length]? = some x:=by show (p++y++x::s)[p.length+y.length]? = _; rw [jn (by simp)]; simp
 have gy:∀ t,p.length<=t->t<p.length+y.length->d[t]? = y[t-p.length]?:=fun t h1 h2=>by
  show (p++y++x::s)[t]? = _;rw [jm (by simp; omega),jn (by omega)]
 let P:Nat->Bool:=fun t=>match d[t]? with
  | some r=>!(decide (oE x r<0))
  | none=>false
 have hP:∀ t (h1:p.length<=t) (h2:t<p.length+y.length),P t = !(decide (oE x (y[t-p.length]'(by omega))<0)):=fun t h1 h2=>by
  show (match d[t]? with | some r=>!(decide (oE x r<0)) | none=>false)=_;rw [gy t h1 h2,bh (by omega)]
 obtain⟨k,k1,k2,k3,k4,k5⟩:=CI (B:=fun t:Int×Int=>eP d ((p.length+y.length:Nat):Int) a7 t.1 t.2) (P:=P) (lo:=p.length) (hi:=p.length+y.length) (fun i=>by
   dsimp only;unfold eP;rw [decide_eq_false (by omega),cond_false]) (fun i j h1 h2 h3=>by
   dsimp only;unfold eP;have hh:p.length<=(i+j) / 2:=by omega
   have hh2:(i+j) / 2<p.length+y.length:=by omega
   have hr:y[(i+j) / 2-p.length]? = some (y[(i+j) / 2-p.length]'(by omega)):=bh (by omega);rw [decide_eq_true (by omega),cond_true,Ay (by omega) (by omega),aV,gx,al,aV,gy _ hh hh2,hr,al,HV hx (hy _ (dG _)),al,hP _ hh hh2];by_cases hc:oE x (y[(i+j) / 2-p.length]'(by omega))<0
   ·rw [decide_eq_true hc,eE,cond_false,if_neg (by simp)]
   ·rw [decide_eq_false hc,mL,cond_true,if_pos rfl,cy (by omega)]) (fun a b h1 h2 h3 hp=>by
   rw [hP a h1 (by omega)];rw [hP b (by omega) h3] at hp;have hn:¬ oE x (y[b-p.length]'(by omega))<0:=by simpa using hp
   have h0:¬ oE x (y[a-p.length]'(by omega))<0:=fun h=>hn (MW h (hs.get (i:=a-p.length) (j:=b-p.length) (by omega) (bh (by omega)) (bh (by omega))));rw [decide_eq_false h0]; rfl)
  (p.length+y.length) p.length (p.length+y.length) (by omega) (bx _) (by omega) (bx _) (fun t h1 h2=>by omega) (fun t h1 h2=>by omega)
 have hyk:y=y.take (k-p.length)++y.drop (k-p.length):=(qS _ _).symm;have hlt:(y.take (k-p.length)).length=k-p.length:=by rw [gQ]; omega
 have hld:(y.drop (k-p.length)).length=p.length+y.length-k:=by rw [sL]; omega
 refine⟨y.take (k-p.length)++x::y.drop (k-p.length),?_,?_,?_⟩
 ·unfold dO;rw [show ((IntKind.i64.wrap (((p.length+y.length:Nat):Int)-(p.length:Int)):Int)==1)=false by rw [ki (by omega) (by omega)]; simp; omega,cond_false];unfold jj;rw [show ((IntKind.i64.wrap (((p.length+y.length+1:Nat):Int)-((p.length+y.length:Nat):Int)):Int)==1)=true by rw [ki (by omega) (by omega)]; simp; omega,cond_true];have k3':loop (fun t:Int×Int=>eP (p++y++x::s) ((p.length+y.length:Nat):Int) a7 t.1 t.2) ((p.length:Int),((p.length+y.length:Nat):Int))=some (k:Int):=k3;rw [k3',al];unfold lO;have hu:=EA k _ (y.drop (k-p.length)) (p++y.take (k-p.length)) s x rfl (by rw [br]; omega) (by rw [cA p,<- hyk]; exact hl);rw [cA p,<- hyk,show (p++y.take (k-p.length)).length+(y.drop (k-p.length)).length=p.length+y.length by rw [br]; omega] at hu;rw [hu,al];unfold lN;simp [cA]
 ·refine List.perm_middle.trans ?_;rw [<- hyk];exact (List.perm_append_singleton x y).symm
 ·have hs':=hs;rw [hyk] at hs';have h1:=lT.1 hs';refine wN.app h1.1 (jl.2 ⟨fun r hr=>?_,h1.2.1⟩) fun r hr q hq=>?_
  ·obtain⟨t,ht⟩:=dt.1 hr;rw [qT] at ht;have htl:=aU ht;have:=k5 (k+t) (by omega) (by omega);rw [hP (k+t) (by omega) (by omega)] at this;have h2:oE x (y[k+t-p.length]'(by omega))<0:=by simpa using this
   have e:y[k+t-p.length]'(by omega)=r:=by
    have e1:k+t-p.length=k-p.length+t:=by omega
    exact (bR.1 (by rw [e1]; exact ht)).2
   rw [e] at h2;omega
  ·rcases bC.1 hq with rfl | hq
   ·obtain⟨t,ht⟩:=dt.1 hr;have htl:=aU ht;rw [hlt] at htl;rw [pY,if_pos htl] at ht;have:=k4 (p.length+t) (by omega) (by omega);rw [hP (p.length+t) (by omega) (by omega)] at this;have h2:¬ oE q (y[p.length+t-p.length]'(by omega))<0:=by simpa using this
    have e:y[p.length+t-p.length]'(by omega)=r:=by
     have e1:p.length+t-p.length=t:=by omega
     exact (bR.1 (by rw [e1]; exact ht)).2
    rw [e] at h2;rw [qs]; omega
   ·exact h1.2.2 r hr q hq
end
section
open Go.Lib hiding intOf
theorem O7 {p x y s:List aj} (hx:∀ r∈x,pB r) (hy:∀ r∈y,pB r) (sx:wN x) (sy:wN y) {a m b mid lo hi:Nat} (ea:a=p.length) (em:m=p.length+x.length) (eb:b=p.length+x.length+y.length) (emid:mid=(a+b) / 2) (hl:(p++x++y++s).length<=1000000)
  (hlo:(mid<m/\lo=mid+m-b/\hi=mid)∨(m<=mid/\lo=a/\hi=m)) (h2:2<=x.length) (h3:2<=y.length) :
  ∃ k,lo<=k/\k<=hi/\loop (fun t:Int×Int=>fv (p++x++y++s) (a:Int) (m:Int) (b:Int) a7 t.1 t.2) ((lo:Int),(hi:Int))=some (k:Int)/\(∀ r∈x.take (k-a),∀ q∈y.drop (mid-k),oE r q<=0)/\(∀ r∈y.take (mid-k),∀ q∈x.drop (k-a),oE r q<=0):=by
 have hl2:p.length+x.length+y.length+s.length<=1000000:=by simpa [my] using hl
 let d:=p++x++y++s
 have gx:∀ t,a<=t->t<m->d[t]? = x[t-a]?:=fun t h1 h2=>by
  show (p++x++y++s)[t]? = _;rw [jm (by simp; omega),jm (by simp; omega),jn (by omega),ea]
 have gy:∀ t,m<=t->t<b->d[t]? = y[t-m]?:=fun t h1 h2=>by
  show (p++x++y++s)[t]? = _;rw [jm (by simp; omega),jn (by simp; omega),br,em]
 let P:Nat->Bool:=fun t=>match y[mid-1-t]?,x[t-a]? with
  | some r,some q=>!(decide (oE r q<0))
  | _,_=>false
 have hP:∀ t (h1:lo<=t) (h2:t<hi),P t = !(decide (oE (y[mid-1-t]'(by omega)) (x[t-a]'(by omega))<0)):=fun t h1 h2=>by
  show (match y[mid-1-t]?,x[t-a]? with | some r,some q=>!(decide (oE r q<0)) | _,_=>false)=_;rw [bh (by omega),bh (by omega)]
 have emw:IntKind.i64.wrap (cS .u64 (IntKind.u64.wrap (IntKind.i64.wrap ((a:Int)+b))) 1)=(mid:Int):=by rw [Ay (by omega) (by omega),emid]
 obtain⟨k,k1,k2,k3,k4,k5⟩:=CI (B:=fun t:Int×Int=>fv d (a:Int) (m:Int) (b:Int) a7 t.1 t.2) (P:=P) (lo:=lo) (hi:=hi) (fun i=>by
   dsimp only;unfold fv;rw [decide_eq_false (by omega),cond_false]) (fun i j h1 h2 h3=>by
   dsimp only;unfold fv;have hh:lo<=(i+j) / 2:=by omega
   have hh2:(i+j) / 2<hi:=by omega
   have e1:IntKind.i64.wrap ((IntKind.i64.wrap ((IntKind.i64.wrap ((mid:Int)+(m:Int)))-1))-(((i+j) / 2:Nat):Int))=((mid+m-1-(i+j) / 2:Nat):Int):=by
    rw [ki (z:=(mid:Int)+m) (by omega) (by omega),ki (z:=(mid:Int)+m-1) (by omega) (by omega),ki (by omega) (by omega)]; omega
   have hr:y[mid-1-(i+j) / 2]? = some (y[mid-1-(i+j) / 2]'(by omega)):=bh (by omega);have hq:x[(i+j) / 2-a]? = some (x[(i+j) / 2-a]'(by omega)):=bh (by omega);rw [decide_eq_true (by omega),cond_true,emw,Ay (by omega) (by omega),e1,aV,gy _ (by omega) (by omega),show mid+m-1-(i+j) / 2-m=mid-1-(i+j) / 2 by omega,hr,al,aV,gx _ (by omega) (by omega),hq,al,HV (hy _ (dG _)) (hx _ (dG _)),al,hP _ hh hh2];by_cases hc:oE (y[mid-1-(i+j) / 2]'(by omega)) (x[(i+j) / 2-a]'(by omega))<0
   ·rw [decide_eq_true hc,eE,cond_false,if_neg (by simp)]
   ·rw [decide_eq_false hc,mL,cond_true,if_pos rfl,cy (by omega)]) (fun u v h1 h2 h3 hp=>by
   rw [hP u h1 (by omega)];rw [hP v (by omega) h3] at hp;have hn:¬ oE (y[mid-1-v]'(by omega)) (x[v-a]'(by omega))<0:=by simpa using hp
   have h0:¬ oE (y[mid-1-u]'(by omega)) (x[u-a]'(by omega))<0:=fun h=>hn (MW (MV (sy.get (i:=mid-1-v) (j:=mid-1-u) (by omega) (bh (by omega)) (bh (by omega))) h) (sx.get (i:=u-a) (j:=v-a) (by omega) (bh (by omega)) (bh (by omega))));rw [decide_eq_false h0]; rfl)
  hi lo hi (by omega) (bx _) (by omega) (bx _) (fun t h1 h2=>by omega) (fun t h1 h2=>by omega)
 refine⟨k,k1,k2,k3,fun r hr q hq=>?_,fun r hr q hq=>?_⟩
 ·obtain⟨i,hi1⟩:=dt.1 hr;obtain⟨j,hj1⟩:=dt.1 hq;have hil:=aU hi1;rw [gQ] at hil;rw [pY,if_pos (by omega)] at hi1;rw [qT] at hj1;have hjl:=aU hj1;have:=k4 (k-1) (by omega) (by omega);rw [hP (k-1) (by omega) (by omega)] at this;have h0:¬ oE (y[mid-1-(k-1)]'(by omega)) (x[k-1-a]'(by omega))<0:=by simpa using this
  have h1:oE (x[k-1-a]'(by omega)) (y[mid-1-(k-1)]'(by omega))<=0:=by rw [qs]; omega
  have h4:=sx.get (i:=i) (j:=k-1-a) (by omega) hi1 (bh (by omega));have h5:=sy.get (i:=mid-1-(k-1)) (j:=mid-k+j) (by omega) (bh (by omega)) hj1;exact tM h4 (tM h1 h5)
 ·obtain⟨i,hi1⟩:=dt.1 hr;obtain⟨j,hj1⟩:=dt.1 hq;have hil:=aU hi1;rw [gQ] at hil;rw [pY,if_pos (by omega)] at hi1;rw [qT] at hj1;have hjl:=aU hj1;have:=k5 k (bx _) (by omega);rw [hP k (by omega) (by omega)] at this;have h0:oE (y[mid-1-k]'(by omega)) (x[k-a]'(by omega))<0:=by simpa using this
  have h4:=sy.get (i:=i) (j:=mid-1-k) (by omega) hi1 (bh (by omega));have h5:=sx.get (i:=k-a) (j:=k-a+j) (by omega) (bh (by omega)) hj1;exact tM h4 (tM (Int.le_of_lt h0) h5)
end
section
open Go.Lib hiding intOf
theorem Ge:∀ (f:Nat) (p x y s:List aj),(∀ r∈x,pB r)->(∀ r∈y,pB r)->wN x->wN y->1<=x.length->1<=y.length->x.length+y.length<=2 ^ f->(p++x++y++s).length<=1000000 ->
  ∃ z,IG f a7 (p++x++y++s) (p.length:Int) ((p.length+x.length:Nat):Int) ((p.length+x.length+y.length:Nat):Int)=some (p++z++s)/\z.Perm (x++y)/\wN z
 | 0,p,x,y,s,hx,hy,sx,sy,h1,h2,hf,hl=>by
  rw [Nat.pow_zero] at hf; omega
 | f+1,p,x,y,s,hx,hy,sx,sy,h1,h2,hf,hl=>by
  show ∃ z,dO a7 (IG f) (p++x++y++s) (p.length:Int) ((p.length+x.length:Nat):Int) ((p.length+x.length+y.length:Nat):Int)=some (p++z++s)/\z.Perm (x++y)/\wN z;have hl2:p.length+x.length+y.length+s.length<=1000000:=by simpa [my] using hl
  by_cases hx1:x.length=1
  ·obtain⟨x0,rfl⟩:=List.length_eq_one_iff.1 hx1;have:=O8 (IG f) (p:=p) (y:=y) (s:=s) (x:=x0) (hx x0 (by simp)) hy sy (by simp at hl ⊢; omega);simpa [cA] using this
  by_cases hy1:y.length=1
  ·obtain⟨y0,rfl⟩:=List.length_eq_one_iff.1 hy1;have:=O9 (IG f) (p:=p) (y:=x) (s:=s) (x:=y0) (hy y0 (by simp)) hx sx (by omega) (by simp at hl ⊢; omega);simpa [cA] using this
  rw [A5] at hf;generalize hq:2 ^ f=q at hf;obtain⟨a,ea⟩:∃ a,a=p.length:=⟨_,rfl⟩;obtain⟨m,em⟩:∃ m,m=p.length+x.length:=⟨_,rfl⟩;obtain⟨b,eb⟩:∃ b,b=p.length+x.length+y.length:=⟨_,rfl⟩;obtain⟨mid,emid⟩:∃ mid,mid=(a+b) / 2:=⟨_,rfl⟩;have emw:IntKind.i64.wrap (cS .u64 (IntKind.u64.wrap (IntKind.i64.wrap ((a:Int)+b))) 1)=(mid:Int):=by rw [Ay (by omega) (by omega),emid]
  obtain⟨lo,hi,hlo⟩:∃ lo hi,(mid<m/\lo=mid+m-b/\hi=mid)∨(m<=mid/\lo=a/\hi=m):=by
   by_cases h:mid<m
   ·exact⟨_,_,.inl ⟨h,rfl,rfl⟩⟩
   ·exact⟨_,_,.inr ⟨by omega,rfl,rfl⟩⟩
  obtain⟨k,k1,k2,k3,k4,k5⟩:=O7 hx hy sx sy ea em eb emid hl hlo (by omega) (by omega);rw [<- eb,<- em,<- ea];have ewn:IntKind.i64.wrap ((mid:Int)+(m:Int))=((mid+m:Nat):Int):=by rw [ki (by omega) (by omega)]; omega
  have een:IntKind.i64.wrap (((mid+m:Nat):Int)-(k:Int))=((mid+m-k:Nat):Int):=by rw [ki (by omega) (by omega)]; omega
  have s1:dO a7 (IG f) (p++x++y++s) (a:Int) (m:Int) (b:Int)=gM (IG f) (p++x++y++s) (a:Int) (m:Int) (b:Int) a7 (k:Int):=by
   unfold dO;rw [show ((IntKind.i64.wrap ((m:Int)-(a:Int)):Int)==1)=false by rw [ki (by omega) (by omega)]; simp; omega,cond_false];unfold jj;rw [show ((IntKind.i64.wrap ((b:Int)-(m:Int)):Int)==1)=false by rw [ki (by omega) (by omega)]; simp; omega,cond_false];unfold mK;rw [emw];rcases hlo with⟨h,e1,e2⟩|⟨h,e1,e2⟩
   ·rw [decide_eq_true (by omega),cond_true,ewn,show IntKind.i64.wrap (((mid+m:Nat):Int)-(b:Int))=(lo:Int) by rw [ki (by omega) (by omega)]; omega];unfold gN;rw [<- e2,k3,al]
   ·rw [decide_eq_false (by omega),cond_false];unfold gN;have k3':=k3;rw [e1,e2] at k3';rw [k3',al]
  have ex:x=x.take (k-a)++x.drop (k-a):=(qS _ _).symm;have ey:y=y.take (mid-k)++y.drop (mid-k):=(qS _ _).symm;have lx1:(x.take (k-a)).length=k-a:=by rw [gQ]; omega
  have lx2:(x.drop (k-a)).length=m-k:=by rw [sL]; omega
  have ly1:(y.take (mid-k)).length=mid-k:=by rw [gQ]; omega
  have ly2:(y.drop (mid-k)).length=b-(mid+m-k):=by rw [sL]; omega
  have cx1:∀ r∈x.take (k-a),pB r:=fun r hr=>hx r (Gl hr);have cx2:∀ r∈x.drop (k-a),pB r:=fun r hr=>hx r (Dy hr);have cy1:∀ r∈y.take (mid-k),pB r:=fun r hr=>hy r (Gl hr);have cy2:∀ r∈y.drop (mid-k),pB r:=fun r hr=>hy r (Dy hr);have hsx:=sx;rw [ex] at hsx;have px:=lT.1 hsx;have hsy:=sy;rw [ey] at hsy;have py:=lT.1 hsy;generalize hX1:x.take (k-a)=X1 at *;generalize hX2:x.drop (k-a)=X2 at *;generalize hY1:y.take (mid-k)=Y1 at *;generalize hY2:y.drop (mid-k)=Y2 at *;have hl3:p.length+X1.length+X2.length+Y1.length+Y2.length+s.length<=1000000:=by omega
  have s2:gM (IG f) (p++x++y++s) (a:Int) (m:Int) (b:Int) a7 (k:Int)=ft (IG f) (a:Int) (m:Int) (b:Int) a7 (k:Int) (p++X1++Y1++X2++Y2++s):=by
   rw [ex,ey];unfold gM;rw [emw,ewn,een];by_cases q1:k<m
   ·rw [decide_eq_true (by omega),cond_true];unfold gL;rw [emw,ewn,een];by_cases q2:m<mid+m-k
    ·rw [decide_eq_true (by omega),cond_true];have hr:=Q7 a7 (p:=p++X1) (x:=X2) (y:=Y1) (s:=Y2++s) (by omega) (by omega) (by simp; omega);rw [br,show p.length+X1.length=k by omega,show k+X2.length=m by omega,show m+Y1.length=mid+m-k by omega] at hr;rw [show p++(X1++X2)++(Y1++Y2)++s=p++X1++X2++Y1++(Y2++s) by simp [cA],hr,al];simp [cA]
    ·have:Y1=[]:=wE.1 (by omega);rw [decide_eq_false (by omega),cond_false,this];simp [cA]
   ·have:X2=[]:=wE.1 (by omega);rw [decide_eq_false (by omega),cond_false,this];unfold gL;rw [cond_false];simp [cA]
  obtain⟨z1,s3,pz1,sz1⟩:∃ z1,ft (IG f) (a:Int) (m:Int) (b:Int) a7 (k:Int) (p++X1++Y1++X2++Y2++s)=fq (IG f) (a:Int) (m:Int) (b:Int) a7 (k:Int) (p++z1++X2++Y2++s)/\z1.Perm (X1++Y1)/\wN z1:=by
   unfold ft;rw [emw];by_cases q1:a<k
   ·rw [decide_eq_true (by omega),cond_true];unfold gK;rw [emw];by_cases q2:k<mid
    ·rw [decide_eq_true (by omega),cond_true];obtain⟨z,z1,z2,z3⟩:=Ge f p X1 Y1 (X2++Y2++s) cx1 cy1 px.1 py.1 (by omega) (by omega) (by omega) (by simp; omega);rw [<- ea,show a+X1.length=k by omega,show k+Y1.length=mid by omega] at z1;refine⟨z,?_,z2,z3⟩;rw [show p++X1++Y1++X2++Y2++s=p++X1++Y1++(X2++Y2++s) by simp [cA],z1,al];simp [cA]
    ·have:Y1=[]:=wE.1 (by omega);rw [decide_eq_false (by omega),cond_false,this];exact⟨X1,by simp [cA],by simp,px.1⟩
   ·have:X1=[]:=wE.1 (by omega);rw [decide_eq_false (by omega),cond_false,this];unfold gK;rw [cond_false];exact⟨Y1,by simp [cA],by simp,py.1⟩
  obtain⟨z2,s4,pz2,sz2⟩:∃ z2,fq (IG f) (a:Int) (m:Int) (b:Int) a7 (k:Int) (p++z1++X2++Y2++s)=some (p++z1++z2++s)/\z2.Perm (X2++Y2)/\wN z2:=by
   have lz:=pz1.length_eq;rw [br] at lz;unfold fq;rw [emw,ewn,een];by_cases q1:mid<mid+m-k
   ·rw [decide_eq_true (by omega),cond_true];unfold gJ;rw [emw,ewn,een];by_cases q2:mid+m-k<b
    ·rw [decide_eq_true (by omega),cond_true];obtain⟨z,g1,g2,g3⟩:=Ge f (p++z1) X2 Y2 s cx2 cy2 px.2.1 py.2.1 (by omega) (by omega) (by omega) (by simp; omega);rw [br,show p.length+z1.length=mid by omega,show mid+X2.length=mid+m-k by omega,show mid+m-k+Y2.length=b by omega] at g1;exact⟨z,by rw [g1]; rfl,g2,g3⟩
    ·have:Y2=[]:=wE.1 (by omega);rw [decide_eq_false (by omega),cond_false,this];exact⟨X2,by simp,by simp,px.2.1⟩
   ·have:X2=[]:=wE.1 (by omega);rw [decide_eq_false (by omega),cond_false,this];unfold gJ;rw [cond_false];exact⟨Y2,by simp,by simp,py.2.1⟩
  refine⟨z1++z2,?_,?_,wN.app sz1 sz2 fun r hr q hq=>?_⟩
  ·rw [s1,s2,s3,s4]; simp [cA]
  ·rw [ex,ey];refine (pz1.append pz2).trans ?_;rw [cA,cA];refine List.Perm.append_left X1 ?_;rw [<- cA,<- cA];exact List.Perm.append_right Y2 List.perm_append_comm
  ·rcases cM.1 (pz1.mem_iff.1 hr) with hr | hr <;> rcases cM.1 (pz2.mem_iff.1 hq) with hq | hq
   ·exact px.2.2 r hr q hq
   ·exact k4 r hr q hq
   ·exact k5 r hr q hq
   ·exact py.2.2 r hr q hq
end
section
open Go.Lib hiding intOf
theorem JZ {p:List aj} {e:aj} (he:pB e):∀ (N:Nat) (u v s:List aj),u.length=N->(∀ r∈u,pB r)->wN (u++v)->(∀ r∈v,oE e r<=0)->(p++u++e::(v++s)).length<=1000000 ->
  ∃ z,loop (fun t:(List aj)×Int=>eU (p.length:Int) a7 t.1 t.2) (p++u++e::(v++s),((p.length+u.length:Nat):Int))=some (p++z++s)/\z.Perm (e::(u++v))/\wN z
 | 0,u,v,s,hN,hu,hs,hv,hl=>by
  have:u=[]:=wE.1 hN;subst this;refine⟨e::v,(cR (r:=p++e::(v++s)) ?_).trans (by simp),DI _,jl.2 ⟨hv,hs⟩⟩;dsimp only;unfold eU;rw [decide_eq_false (by simp only [ma]; omega),cond_false]; simp
 | N+1,u,v,s,hN,hu,hs,hv,hl=>by
  obtain⟨u',b,rfl⟩:∃ u' b,u=u'++[b]:=⟨u.dropLast,u.getLast (by intro h; rw [h] at hN; cases hN),(List.dropLast_concat_getLast _).symm⟩;simp only [br,dx,ma] at hN hl;have e1:IntKind.i64.wrap (((p.length+(u'++[b]).length:Nat):Int)-1)=((p.length+u'.length:Nat):Int):=by rw [br,ki (by simp only [mM]; omega) (by simp only [mM]; omega)]; simp only [mM]; omega
  have g0:(p++(u'++[b])++e::(v++s))[p.length+(u'++[b]).length]? = some e:=by
   rw [jn (by simp)]; simp
  have g1:(p++(u'++[b])++e::(v++s))[p.length+u'.length]? = some b:=by
   rw [jm (by simp),jn (by omega)]; simp
  have hb:pB b:=hu b (by simp);by_cases hc:oE e b<0
  ·have eb:eU (p.length:Int) a7 (p++(u'++[b])++e::(v++s)) ((p.length+(u'++[b]).length:Nat):Int)=some (.go (p++u'++e::((b::v)++s),((p.length+u'.length:Nat):Int))):=by
    unfold eU;rw [decide_eq_true (by rw [br]; simp only [mM]; omega),cond_true,e1,aV,aV,g0,al,g1,al,HV he hb,al,decide_eq_true hc,cond_true,al,al,al,gP,gP,aV,Af (by rw [br]; simp only [mM]; omega),g1,al];congr 2;refine Prod.ext ?_ rfl;dsimp only;have ek:p.length+(u'++[b]).length=(p++(u'++[b])).length:=by simp
    rw [ek,xB _ _ (bx _),sJ];rw [show p++(u'++[b])++(e::(v++s)).set 0 b=(p++u')++(b::b::(v++s)) by simp,show p.length+u'.length=(p++u').length by simp,xB _ _ (bx _),sJ];simp
   obtain⟨z,z1,z2,z3⟩:=JZ (p:=p) he N u' (b::v) s (by omega) (fun r hr=>hu r (by simp [hr])) (by rw [List.append_cons]; exact hs) (fun r hr=>by
    rcases bC.1 hr with hr | hr
    ·rw [hr]; omega
    ·exact hv r hr) (by simp only [br,dx]; omega)
   refine⟨z,by rw [eV (s':=(p++u'++e::((b::v)++s),((p.length+u'.length:Nat):Int))) eb]; exact z1,?_,z3⟩;rw [<- List.append_cons];exact z2
  ·refine⟨(u'++[b])++e::v,(cR (r:=p++(u'++[b])++e::(v++s)) ?_).trans (by simp [cA]),List.perm_middle,?_⟩
   ·dsimp only;unfold eU;rw [decide_eq_true (by rw [br]; simp only [mM]; omega),cond_true,e1,aV,aV,g0,al,g1,al,HV he hb,al,decide_eq_false hc,cond_false]
   ·have h1:=lT.1 hs;have h2:=lT.1 h1.1;have hbe:oE b e<=0:=by rw [qs]; omega
    refine wN.app h1.1 (jl.2 ⟨hv,h1.2.1⟩) fun r hr q hq=>?_;rcases bC.1 hq with rfl | hq
    ·rcases cM.1 hr with hr | hr
     ·exact tM (h2.2.2 r hr b (by simp)) hbe
     ·rw [cp.1 hr]; exact hbe
    ·exact h1.2.2 r hr q hq
theorem I6 {p x s:List aj} (hx:∀ r∈x,pB r) (hl:(p++x++s).length<=1000000):∃ z,jY a7 (p++x++s) (p.length:Int) ((p.length+x.length:Nat):Int)=some (p++z++s)/\z.Perm x/\wN z:=by
 have hl2:p.length+x.length+s.length<=1000000:=by simpa [my] using hl
 have key:Ok (jY a7 (p++x++s) (p.length:Int) ((p.length+x.length:Nat):Int)) fun r=>∃ z,r=p++z++s/\z.Perm x/\wN z:=by
  unfold jY;refine bL (fun n t=>t.2=((p.length+n+1:Nat):Int)/\∃ z,t.1=p++z++(x.drop (n+1)++s)/\z.Perm (x.take (n+1))/\wN z) (fun r=>∃ z,r=p++z++s/\z.Perm x/\wN z) x.length ⟨cy (by omega),x.take 1,by show p++x++s=p++x.take 1++(x.drop 1++s); rw [<- cA (p++_),cA p (x.take 1),qS],DI _,?_⟩ (fun n t hn hI=>?_) (fun r hr=>aq hr)
  ·cases x with
   | nil=>exact sA
   | cons a x=>exact xA _ _
  ·obtain⟨d,i⟩:=t;obtain⟨h1,z,h2,h3,h4⟩:=hI;dsimp only at h1 h2 ⊢;subst h1 h2;have hz:=h3.length_eq;rw [gQ] at hz;unfold nS;by_cases hlt:n+1<x.length
   ·have hd:x.drop (n+1)=x[n+1]::x.drop (n+1+1):=NT hlt;rw [decide_eq_true (by omega),cond_true,hd];obtain⟨w,w1,w2,w3⟩:=JZ (p:=p) (hx _ (dG hlt)) _ z [] (x.drop (n+1+1)++s) rfl (fun r hr=>hx r (Gl (h3.mem_iff.1 hr))) (by rw [jA]; exact h4) (fun r hr=>absurd hr cF) (by simp only [br,dx,ma,sL]; omega);rw [show p.length+z.length=p.length+n+1 by omega] at w1;rw [List.cons_append,ow] at *;rw [w1,al];unfold nR;refine aq ⟨by omega,by show IntKind.i64.wrap (((p.length+n+1:Nat):Int)+1)=_; rw [cy (by omega)]; rfl,w,rfl,?_,w3⟩;rw [bI (bh hlt)];rw [jA] at w2;exact w2.trans ((List.perm_append_singleton _ _).symm.trans (h3.append_right _))
   ·rw [decide_eq_false (by omega),cond_false];have e1:x.drop (n+1)=[]:=List.drop_eq_nil_of_le (by omega);have e2:x.take (n+1)=x:=sI (by omega);rw [e1,ow];rw [e2] at h3;exact aq ⟨z,rfl,h3,h4⟩
 obtain⟨r,e,z,rfl,h⟩:=key;exact⟨z,e,h⟩
end
section
open Go.Lib hiding intOf
inductive Bl (bs:Nat):List aj->Prop
 | last {x:List aj}:x.length<bs->wN x->Bl bs x
 | cons {x r:List aj}:x.length=bs->wN x->Bl bs r->Bl bs (x++r)
theorem Bl.srt {bs:Nat} {d:List aj} (h:Bl bs d) (hd:d.length<=bs):wN d:=by
 cases h with
 | last h1 h2=>exact h2
 | cons h1 h2 h3 =>
  rename_i x r;rw [br] at hd;have:r=[]:=wE.1 (by omega);rw [this,jA]; exact h2
theorem CC (x:List aj):∀ r∈x,pB r:=fun _ _=>trivial
theorem CK:∀ (N:Nat) (y p:List aj) (n:Nat),y.length<=N->n=p.length+y.length->n<=30000 ->
  ∃ z,((loop (fun s:(List aj)×Int×Int=>fH (n:Int) a7 s.1 s.2.1 s.2.2) (p++y,(p.length:Int),((p.length+20:Nat):Int))).bind fun r=>fG (n:Int) a7 r.1 r.2) =
   (loop (fun s:(List aj)×Int=>dS (n:Int) a7 s.1 s.2) (p++z,20)).bind (fun r=>pj r)/\z.Perm y/\Bl 20 z
 | 0,y,p,n,hN,hn,hl=>by
  have:y=[]:=wE.1 (by omega);subst this;obtain⟨z1,a1,a2,a3⟩:=I6 (p:=p) (x:=[]) (s:=[]) (CC _) (by simp; omega);have:z1=[]:=wE.1 a2.length_eq;subst this;rw [ma,mz] at hn a1;subst hn;rw [cR (r:=(p++[],(p.length:Int))) (by
   dsimp only;unfold fH;rw [decide_eq_false (by omega),cond_false]),al]
  unfold fG;rw [jA,jA] at a1;dsimp only;rw [jA,a1,al];exact⟨[],by rw [jA],DI _,.last (by simp) sA⟩
 | N+1,y,p,n,hN,hn,hl=>by
  by_cases h20:20<=y.length
  ·obtain⟨x,y',rfl,hx⟩:∃ x y',y=x++y'/\x.length=20:=⟨y.take 20,y.drop 20,(qS _ _).symm,by rw [gQ]; omega⟩;rw [br] at hn hN h20;obtain⟨z1,a1,a2,a3⟩:=I6 (p:=p) (x:=x) (s:=y') (CC _) (by simp; omega);have l1:=a2.length_eq;rw [hx] at a1;have hl1:(p++z1).length=p.length+20:=by rw [br,l1,hx]
   obtain⟨z2,b1,b2,b3⟩:=CK N y' (p++z1) n (by omega) (by omega) hl;refine⟨z1++z2,?_,a2.append b2,.cons (l1.trans hx) a3 b3⟩;rw [<- cA p z1 z2,<- b1,eV (s':=(p++z1++y',((p++z1).length:Int),(((p++z1).length+20:Nat):Int))) (by
    dsimp only;unfold fH;rw [decide_eq_true (by omega),cond_true,<- cA,a1,al,ki (by omega) (by omega),hl1];rfl)]
  ·obtain⟨z1,a1,a2,a3⟩:=I6 (p:=p) (x:=y) (s:=[]) (CC _) (by simp; omega);have l1:=a2.length_eq;rw [jA,jA] at a1;subst hn;rw [cR (r:=(p++y,(p.length:Int))) (by
    dsimp only;unfold fH;rw [decide_eq_false (by omega),cond_false]),al]
   unfold fG;dsimp only;rw [a1,al];exact⟨z1,rfl,a2,.last (by omega) a3⟩
theorem Ja {bs:Nat} (h1:1<=bs) (h2:2*bs<=65536):∀ (N:Nat) (R p:List aj) (n:Nat),R.length<=N->Bl bs R->n=p.length+R.length->n<=30000 ->
  ∃ z,((loop (fun s:(List aj)×Int×Int=>ie (n:Int) a7 (bs:Int) s.1 s.2.1 s.2.2) (p++R,(p.length:Int),((p.length+2*bs:Nat):Int))).bind fun r=>ic (n:Int) a7 (bs:Int) r.1 r.2) =
   some (.go (p++z,((2*bs:Nat):Int)))/\z.Perm R/\Bl (2*bs) z:=by
 intro N
 induction N using Nat.strongRecOn with
 | ind N ih =>
  intro R p n hN hB hn hl;have e2:IntKind.i64.wrap ((bs:Int)*2)=((2*bs:Nat):Int):=by rw [ki (by omega) (by omega)]; omega
  have e3:IntKind.i64.wrap (2*(bs:Int))=((2*bs:Nat):Int):=by rw [ki (by omega) (by omega)]; omega
  have e4:IntKind.i64.wrap ((p.length:Int)+bs)=((p.length+bs:Nat):Int):=by rw [ki (by omega) (by omega)]; omega
  cases hB with
  | last hx sx =>
   subst hn;rw [cR (r:=(p++R,(p.length:Int))) (by
    dsimp only;unfold ie;rw [decide_eq_false (by omega),cond_false]),al]
   unfold ic;dsimp only;rw [e4,decide_eq_false (by omega),cond_false];unfold ia jI;rw [e2];exact⟨R,rfl,DI _,.last (by omega) sx⟩
  | cons hx sx hr =>
   rename_i x r;rw [br] at hn hN;cases hr with
   | last hy sy =>
    rw [cR (r:=(p++(x++r),(p.length:Int))) (by
     dsimp only;unfold ie;rw [decide_eq_false (by omega),cond_false]),al]
    unfold ic;dsimp only;rw [e4];by_cases hr0:r.length=0
    ·have:r=[]:=wE.1 hr0;subst this;rw [decide_eq_false (by omega),cond_false];unfold ia jI;rw [e2];exact⟨x++[],rfl,DI _,.last (by rw [jA]; omega) (by rw [jA]; exact sx)⟩
    ·obtain⟨z,g1,g2,g3⟩:=Ge 16 p x r [] (CC _) (CC _) sx sy (by omega) (by omega) (by rw [show (2:Nat) ^ 16=65536 by decide]; omega) (by simp; omega);rw [jA,jA,cA,hx,show p.length+bs+r.length=n by omega] at g1;have g1:em a7 (p++(x++r)) (p.length:Int) ((p.length+bs:Nat):Int) (n:Int)=some (p++z):=g1;rw [decide_eq_true (by omega),cond_true,g1,al];unfold ia jI;rw [e2];exact⟨z,rfl,g2,.last (by rw [g2.length_eq,br]; omega) g3⟩
   | cons hy sy hr' =>
    rename_i y r';rw [br] at hn hN;obtain⟨z,g1,g2,g3⟩:=Ge 16 p x y r' (CC _) (CC _) sx sy (by omega) (by omega) (by rw [show (2:Nat) ^ 16=65536 by decide]; omega) (by simp; omega);have lz:(p++z).length=p.length+2*bs:=by rw [br,g2.length_eq,br]; omega
    rw [hx,hy,show p.length+bs+bs=p.length+2*bs by omega,cA p x,cA p] at g1;have g1:em a7 (p++(x++y++r')) (p.length:Int) ((p.length+bs:Nat):Int) ((p.length+2*bs:Nat):Int)=some (p++z++r'):=g1;obtain⟨z2,b1,b2,b3⟩:=ih r'.length (by omega) r' (p++z) n (bx _) hr' (by omega) hl;refine⟨z++z2,?_,?_,.cons (by rw [g2.length_eq,br]; omega) g3 b3⟩
    ·rw [<- cA p z z2,<- b1,eV (s':=(p++z++r',((p++z).length:Int),(((p++z).length+2*bs:Nat):Int))) (by
      dsimp only;unfold ie;rw [decide_eq_true (by omega),cond_true,e4,<- cA x y r',g1,al,e3,ki (by omega) (by omega),lz];rfl)]
    ·rw [<- cA x y r'];exact g2.append b2
theorem Ny:∀ (N bs:Nat) (d:List aj),1<=bs->d.length<=bs+N->d.length<=30000->Bl bs d ->
  ∃ z,loop (fun s:(List aj)×Int=>dS (d.length:Int) a7 s.1 s.2) (d,(bs:Int))=some z/\z.Perm d/\wN z:=by
 intro N
 suffices H:∀ (n bs:Nat) (d:List aj),d.length=n->1<=bs->n<=bs+N->n<=30000->Bl bs d->∃ z,loop (fun s:(List aj)×Int=>dS (n:Int) a7 s.1 s.2) (d,(bs:Int))=some z/\z.Perm d/\wN z from fun bs d h1 h2 h3 h4=>H _ bs d rfl h1 h2 h3 h4
 induction N with
 | zero =>
  intro n bs d hd h1 h2 h3 hB;refine⟨d,?_,DI _,hB.srt (by omega)⟩;exact cR (by
   dsimp only;unfold dS;rw [decide_eq_false (by omega),cond_false])
 | succ N ih =>
  intro n bs d hd h1 h2 h3 hB;by_cases hlt:bs<n
  ·obtain⟨z,g1,g2,g3⟩:=Ja h1 (by omega) d.length d [] n (bx _) hB (by rw [ma]; omega) h3;obtain⟨w,w1,w2,w3⟩:=ih n (2*bs) z (g2.length_eq.trans hd) (by omega) (by omega) h3 g3;refine⟨w,?_,w2.trans g2,w3⟩;rw [ow,ow,ma,kj] at g1;rw [<- w1];refine eV ?_;dsimp only;unfold dS;rw [decide_eq_true (by omega),cond_true,show IntKind.i64.wrap (2*(bs:Int))=((2*bs:Nat):Int) by rw [ki (by omega) (by omega)]; omega];exact g1
  ·refine⟨d,?_,DI _,hB.srt (by omega)⟩;exact cR (by
    dsimp only;unfold dS;rw [decide_eq_false (by omega),cond_false])
theorem Nx {d:List aj} (hl:d.length<=30000):∃ z,ln a7 d=some z/\z.Perm d/\wN z:=by
 obtain⟨w,a1,a2,a3⟩:=CK d.length d [] d.length (bx _) (by rw [ma]; omega) hl;rw [ow,ow,ma,kj] at a1;obtain⟨z,b1,b2,b3⟩:=Ny w.length 20 w (by decide) (by omega) (by rw [a2.length_eq]; exact hl) a3;rw [a2.length_eq] at b1;refine⟨z,?_,b2.trans a2,b3⟩;unfold ln sX;have a1:((loop (fun s:(List aj)×Int×Int=>fH (d.length:Int) a7 s.1 s.2.1 s.2.2) (d,0,20)).bind fun r=>fG (d.length:Int) a7 r.1 r.2)=_:=a1;rw [a1];have b1:loop (fun s:(List aj)×Int=>dS (d.length:Int) a7 s.1 s.2) (w,20)=some z:=b1;rw [b1];rfl
theorem OT (x:aj):oE x x=0:=by have:=qs x x; omega
end
section
open Go.Lib hiding intOf
instance:DecidableEq ae:=fun a b=>decidable_of_iff (fa a b=true) fc
theorem Jp (xs:List ae):(uq xs).Perm xs:=List.mergeSort_perm _ _
theorem Gc (xs:List ae):(uq xs).Pairwise fun a b=>¬ bV b a<0:=by
 have h:=List.pairwise_mergeSort (le:=fun x y=>!ltOf bV y x) (fun a b c h1 h2=>by
  simp only [sw] at *;exact TM.ntrans _ _ _ h2 h1) (fun a b=>by
  simp only [wB,sw];unfold ltOf;simp only [decide_eq_false_iff_not];by_cases h:bV b a<0
  ·exact .inr (As h)
  ·exact .inl h) xs
 refine List.Pairwise.imp (fun {a b} h=>?_) h;unfold ltOf at h;simpa using h
def uU (s:List ae):Nat->List ae
 | 0=>[]
 | n+1=>uU s n++(match s[n]? with
  | some x=>if n≠0/\s[n-1]? = some x then [] else [x]
  | none=>[])
theorem JQ (s:List ae):∀ n,(uU s n).length<=n
 | 0=>bx _
 | n+1=>by
  have:=JQ s n;unfold uU;rw [br];cases s[n]? with
  | none=>simp; omega
  | some x=>dsimp only; split <;> simp <;> omega
theorem zA {s:List ae} {n:Nat} {x:ae} (hx:s[n]? = some x) (h:n=0∨s[n-1]? ≠ some x):uU s (n+1)=uU s n++[x]:=by
 rw [uU,hx];dsimp only;rw [if_neg (by rintro⟨h1,h2⟩; rcases h with h | h; exact h1 h; exact h h2)]
theorem zB {s:List ae} {n:Nat} {x:ae} (hx:s[n]? = some x) (h0:n≠0) (h:s[n-1]? = some x):uU s (n+1)=uU s n:=by
 rw [uU,hx];dsimp only;rw [if_pos ⟨h0,h⟩,jA]
theorem Cr {s:List ae}:∀ {n:Nat} {x:ae},n<=s.length->(x∈uU s n↔∃ i,i<n/\s[i]? = some x)
 | 0,x,_=>by simp [uU]
 | n+1,x,h=>by
  have ih:=Cr (s:=s) (n:=n) (x:=x) (by omega);have hn:s[n]? = some s[n]:=bh (by omega);by_cases hc:n≠0/\s[n-1]? = some s[n]
  ·rw [zB hn hc.1 hc.2,ih];constructor
   ·rintro⟨i,h1,h2⟩; exact⟨i,by omega,h2⟩
   ·rintro⟨i,h1,h2⟩;by_cases hi:i=n
    ·subst hi;rw [hn] at h2;exact⟨i-1,by omega,by rw [hc.2,<- h2]⟩
    ·exact⟨i,by omega,h2⟩
  ·rw [zA hn (by by_cases h0:n=0; exact .inl h0; exact .inr fun h=>hc ⟨h0,h⟩),cM,ih];constructor
   ·rintro (⟨i,h1,h2⟩ | h)
    ·exact⟨i,by omega,h2⟩
    ·simp only [bC,cF,or_false] at h;exact⟨n,by omega,by rw [hn,h]⟩
   ·rintro⟨i,h1,h2⟩;by_cases hi:i=n
    ·subst hi;rw [hn] at h2;injection h2 with h2;exact .inr (by simp [h2])
    ·exact .inl ⟨i,by omega,h2⟩
theorem Hd {s:List ae} (hs:s.Pairwise fun a b=>¬ bV b a<0):∀ n,n<=s.length->Fq (uU s n)
 | 0,_=>sA
 | n+1,h=>by
  have ih:=Hd hs n (by omega);have hn:s[n]? = some s[n]:=bh (by omega);by_cases hc:n≠0/\s[n-1]? = some s[n]
  ·rw [zB hn hc.1 hc.2]; exact ih
  ·rw [zA hn (by by_cases h0:n=0; exact .inl h0; exact .inr fun h=>hc ⟨h0,h⟩)];unfold Fq;rw [lT];refine⟨ih,xA _ _,fun a ha b hb=>?_⟩;simp only [bC,cF,or_false] at hb;subst hb;obtain⟨i,hi,hia⟩:=(Cr (by omega)).1 ha;have h0:n≠0:=by omega
   have hm:s[n-1]? = some s[n-1]:=bh (by omega);have hlt:bV s[n-1] s[n]<0:=by
    have h1:=eC.1 hs (n-1) n (by omega) (by omega) (by omega);rcases u6 s[n-1] s[n] with h | h | h
    ·exact h
    ·exact absurd ⟨h0,by rw [hm,h]⟩ hc
    ·exact absurd h h1
   by_cases hin:i=n-1
   ·subst hin;rw [hm] at hia;injection hia with hia;rw [<- hia]; exact hlt
   ·have h1:=eC.1 hs i (n-1) (by omega) (by omega) (by omega);obtain⟨q1,q2⟩:=bR.1 hia;rw [q2] at h1;exact oK h1 hlt
theorem xK {s:List ae}:∀ n,n<=s.length->(∀ i,i≠0->i<n->s[i-1]? ≠ s[i]?)->uU s n=s.take n
 | 0,_,_=>by simp [uU]
 | n+1,h,hd=>by
  have hn:s[n]? = some s[n]:=bh (by omega);rw [zA hn (by by_cases h0:n=0; exact .inl h0; exact .inr (by rw [<- hn]; exact hd n h0 (by omega))),xK n (by omega) fun i h0 hi=>hd i h0 (by omega),bI hn]
theorem IY {s:List ae} (hl:Rm s.length):pD s=some (uU s s.length):=by
 unfold Rm at hl;have key:Ok (pD s) fun y=>y=uU s s.length:=by
  unfold pD;refine aS (fun e=>aq ?_) (fun e=>?_)
  ·have e:s.length<2:=by have:=of_decide_eq_true e; omega
   rw [xK _ (bx _) fun i h0 hi=>by omega,f9]
  ·have e:2<=s.length:=by have:=of_decide_eq_false e; omega
   refine bL (fun n t=>t=((n+1:Nat):Int)/\n+1<=s.length/\∀ i,i≠0->i<n+1->s[i-1]? ≠ s[i]?) (fun r=>(r = .go ()/\uU s s.length=s)∨r = .out (uU s s.length)) (s.length-1) ⟨rfl,by omega,fun i h0 hi=>by omega⟩ (fun n t hn hI=>?_) (fun r hr=>?_)
   ·obtain⟨rfl,hI1,hI2⟩:=hI;unfold qk;by_cases O:n+1<s.length
    ·have hx:s[n+1]? = some s[n+1]:=bh O;have hy:s[n]? = some s[n]:=bh (by omega);rw [dlt O,cond_true,aV,hx,al,wb (by omega) (by omega),show (((n+1:Nat):Int)-1)=((n:Nat):Int) by omega,aV,hy,al];show Ok (cond (fa s[n+1] s[n]) _ _) _;cases hq:fa s[n+1] s[n]
     ·rw [cond_false];unfold qi;rw [cy (by omega)];refine aq ⟨by omega,rfl,by omega,fun i h0 hi=>?_⟩;by_cases hin:i=n+1
      ·subst hin;rw [Gn,hx,hy];have:=xQ.1 hq;exact fun h=>this (bJ h).symm
      ·exact hI2 i h0 (by omega)
     ·rw [cond_true,vX (by omega),al];have heq:=fc.1 hq;refine bL (fun m t=>∃ s' kk,t=(s',((kk:Nat):Int),((m+1:Nat):Int))/\s'.length=s.length/\s'.take kk=uU s (n+1+(m+1))/\s'.drop (n+1+m)=s.drop (n+1+m)/\kk<=n+1+m/\n+1+(m+1)<=s.length)
       (fun t=>∃ s' kk,t=(s',((kk:Nat):Int))/\s'.length=s.length/\kk<=s.length/\s'.take kk=uU s s.length) (s.length-(n+2))
       ⟨s,n+1,rfl,rfl,?_,rfl,by omega,by omega⟩ (fun m t hm hJ=>?_) (fun t ht=>?_)
      ·rw [kj,zB hx (by omega) (by rw [Gn,hy,heq]),xK (n+1) (by omega) hI2]
      ·obtain⟨s',kk,rfl,e1,e2,e3,e4,e5⟩:=hJ;have hgt:∀ j,n+1+m<=j->s'[j]? = s[j]?:=fun j hj=>by
        have:=congrArg (fun l=>l[j-(n+1+m)]?) e3;simp only [qT] at this;rwa [show n+1+m+(j-(n+1+m))=j by omega] at this
       unfold qj;dsimp only;rw [gP,gP];by_cases hk2:n+1+(m+1)<s.length
       ·have hz:s[n+1+(m+1)]? = some s[n+1+(m+1)]:=bh hk2;have hz0:s[n+1+m]? = some s[n+1+m]:=bh (by omega);have w0:IntKind.i64.wrap (((m+1:Nat):Int)-1)=(m:Int):=by rw [wb (by omega) (by omega)]; omega
        rw [decide_eq_true (by omega),cond_true,w0];have g1:decide ((0:Int)<=((m+1:Nat):Int))=true:=decide_eq_true (by omega);have g2:decide ((0:Int)<=(m:Int))=true:=decide_eq_true (by omega);have g3:decide ((m:Int)<((s.length-(n+1):Nat):Int))=true:=decide_eq_true (by omega);have a1:((n+1:Nat):Int)+((m+1:Nat):Int)=((n+1+(m+1):Nat):Int):=by omega
        have a2:((n+1:Nat):Int)+(m:Int)=((n+1+m:Nat):Int):=by omega
        rw [g1,g2,g3,a1,a2];simp only [gd,cond_true];rw [aV,aV,aV,hgt _ (by omega),hgt _ (by omega),hz,hz0];simp only [al];show Ok (cond (!fa s[n+1+(m+1)] s[n+1+m]) _ _) _;unfold mU;rw [cy (by omega),cy (by omega),bh (by omega:kk<s'.length),al,gP];cases hq2:fa s[n+1+(m+1)] s[n+1+m]
        ·simp only [mL,cond_true];refine aq ⟨by omega,_,kk+1,rfl,by simp [e1],?_,?_,by omega,by omega⟩
         ·rw [bI (x:=s[n+1+(m+1)]) (Ag (by omega)),List.take_set_of_le (bx _),e2,show n+1+(m+1+1)=n+1+(m+1)+1 from rfl,zA hz (.inr ?_)];rw [show n+1+(m+1)-1=n+1+m by omega,hz0];exact fun h=>(xQ.1 hq2) (bJ h).symm
         ·rw [List.drop_set_of_lt (by omega)];have:=congrArg (List.drop 1) e3;simpa [DA,Gm,my] using this
        ·simp only [eE,cond_false];refine aq ⟨by omega,_,kk,rfl,e1,?_,?_,by omega,by omega⟩
         ·rw [e2,show n+1+(m+1+1)=n+1+(m+1)+1 from rfl,zB hz (by omega) (by rw [show n+1+(m+1)-1=n+1+m by omega,hz0,fc.1 hq2])]
         ·have:=congrArg (List.drop 1) e3;simpa [DA,Gm,my] using this
       ·rw [decide_eq_false (by omega),cond_false];exact aq ⟨s',kk,rfl,e1,by omega,by rw [e2,show n+1+(m+1)=s.length by omega]⟩
      ·obtain⟨s',kk,rfl,e1,e2,e3⟩:=ht;unfold mT;dsimp only;rw [vX (by omega),al];simp only [gP,Ff,jA];rw [vm (by simp; omega),al];refine aq (.inr ?_);rw [List.take_append_of_le_length (by simp; omega),List.take_take,Nat.min_self,e3]
    ·have hn2:n+1=s.length:=by omega
     rw [Hj O,cond_false];refine aq (.inl ⟨rfl,?_⟩);rw [xK _ (bx _) fun i h0 hi=>hI2 i h0 (by omega),f9]
   ·rcases hr with⟨rfl,h⟩ | rfl
    ·exact aq h.symm
    ·exact aq rfl
 obtain⟨y,e,rfl⟩:=key;exact e
theorem G3 {s:List ae} (h:Rm s.length):pC s=some s:=by
 unfold pC Rm at *;rw [show cm (([]:List ae).length+s.length)=true from eZ (by simp; omega)]; rfl
theorem EY {l:List ae} (hl:Rm l.length):∃ m,rh l=some m/\wi l m:=by
 unfold rh;rw [G3 hl,al,eZ (by unfold Rm at hl; omega)];simp only [gd,cond_true];rw [IY (by rw [vl]; exact hl)];refine⟨_,rfl,Hd (Gc l) _ (bx _),fun x=>?_,by have:=JQ (uq l) (uq l).length; rw [vl] at this; rw [vl]; exact this⟩;rw [Cr (bx _),<- (Jp l).mem_iff];constructor
 ·rintro⟨i,_,h⟩; exact az h
 ·intro h;obtain⟨i,hi⟩:=dt.1 h;exact⟨i,aU hi,hi⟩
end
section
open Go.Lib hiding intOf
noncomputable instance U2:DecidableEq aj:=fun a b=>Classical.propDecidable (a=b)
def IQ (p q:aj):Bool:=p.i1.toList==q.i1.toList
theorem JD {p q:aj} (h:IQ p q=false):p≠q:=by
 rintro rfl;unfold IQ at h;simp at h
noncomputable def r5 (s:List aj):Nat->List aj
 | 0=>[]
 | n+1=>r5 s n++(match s[n]? with
  | some x=>if n≠0/\s[n-1]? = some x then [] else [x]
  | none=>[])
theorem JP (s:List aj):∀ n,(r5 s n).length<=n
 | 0=>bx _
 | n+1=>by
  have:=JP s n;unfold r5;rw [br];cases s[n]? with
  | none=>simp; omega
  | some x=>dsimp only; split <;> simp <;> omega
theorem zy {s:List aj} {n:Nat} {x:aj} (hx:s[n]? = some x) (h:n=0∨s[n-1]? ≠ some x):r5 s (n+1)=r5 s n++[x]:=by
 rw [r5,hx];dsimp only;rw [if_neg (by rintro⟨h1,h2⟩; rcases h with h | h; exact h1 h; exact h h2)]
theorem zz {s:List aj} {n:Nat} {x:aj} (hx:s[n]? = some x) (h0:n≠0) (h:s[n-1]? = some x):r5 s (n+1)=r5 s n:=by
 rw [r5,hx];dsimp only;rw [if_pos ⟨h0,h⟩,jA]
theorem Cq {s:List aj}:∀ {n:Nat} {x:aj},n<=s.length->(x∈r5 s n↔∃ i,i<n/\s[i]? = some x)
 | 0,x,_=>by simp [r5]
 | n+1,x,h=>by
  have ih:=Cq (s:=s) (n:=n) (x:=x) (by omega);have hn:s[n]? = some s[n]:=bh (by omega);by_cases hc:n≠0/\s[n-1]? = some s[n]
  ·rw [zz hn hc.1 hc.2,ih];constructor
   ·rintro⟨i,h1,h2⟩; exact⟨i,by omega,h2⟩
   ·rintro⟨i,h1,h2⟩;by_cases hi:i=n
    ·subst hi;rw [hn] at h2;exact⟨i-1,by omega,by rw [hc.2,<- h2]⟩
    ·exact⟨i,by omega,h2⟩
  ·rw [zy hn (by by_cases h0:n=0; exact .inl h0; exact .inr fun h=>hc ⟨h0,h⟩),cM,ih];constructor
   ·rintro (⟨i,h1,h2⟩ | h)
    ·exact⟨i,by omega,h2⟩
    ·simp only [bC,cF,or_false] at h;exact⟨n,by omega,by rw [hn,h]⟩
   ·rintro⟨i,h1,h2⟩;by_cases hi:i=n
    ·subst hi;rw [hn] at h2;injection h2 with h2;exact .inr (by simp [h2])
    ·exact .inl ⟨i,by omega,h2⟩
theorem xJ {s:List aj}:∀ n,n<=s.length->(∀ i,i≠0->i<n->s[i-1]? ≠ s[i]?)->r5 s n=s.take n
 | 0,_,_=>by simp [r5]
 | n+1,h,hd=>by
  have hn:s[n]? = some s[n]:=bh (by omega);rw [zy hn (by by_cases h0:n=0; exact .inl h0; exact .inr (by rw [<- hn]; exact hd n h0 (by omega))),xJ n (by omega) fun i h0 hi=>hd i h0 (by omega),bI hn]
theorem G9 {s:List aj} (hs:wN s) (hZ:∀ p∈s,∀ q∈s,oE p q=0->p=q):∀ n,n<=s.length->(r5 s n).Pairwise fun a b=>oE a b<0
 | 0,_=>sA
 | n+1,h=>by
  have ih:=G9 hs hZ n (by omega);have hn:s[n]? = some s[n]:=bh (by omega);by_cases hc:n≠0/\s[n-1]? = some s[n]
  ·rw [zz hn hc.1 hc.2]; exact ih
  ·rw [zy hn (by by_cases h0:n=0; exact .inl h0; exact .inr fun h=>hc ⟨h0,h⟩),lT];refine⟨ih,xA _ _,fun a ha b hb=>?_⟩;simp only [bC,cF,or_false] at hb;subst hb;obtain⟨i,hi,hia⟩:=(Cq (by omega)).1 ha;have h0:n≠0:=by omega
   have hm:s[n-1]? = some s[n-1]:=bh (by omega);have hlt:oE s[n-1] s[n]<0:=by
    have h1:=eC.1 hs (n-1) n (by omega) (by omega) (by omega);rcases Int.lt_or_eq_of_le h1 with h | h
    ·exact h
    ·exact absurd ⟨h0,by rw [hm,hZ _ (dG _) _ (dG _) h]⟩ hc
   by_cases hin:i=n-1
   ·subst hin;rw [hm] at hia;injection hia with hia;rw [<- hia]; exact hlt
   ·have h1:=eC.1 hs i (n-1) (by omega) (by omega) (by omega);obtain⟨q1,q2⟩:=bR.1 hia;rw [q2] at h1;exact MV h1 hlt
theorem G7 {s:List aj} (hl:Rm s.length) (hE:∀ p∈s,∀ q∈s,IQ p q=true->p=q):kJ mc s=some (r5 s s.length):=by
 unfold Rm at hl;have key:Ok (kJ mc s) fun y=>y=r5 s s.length:=by
  unfold kJ;refine aS (fun e=>aq ?_) (fun e=>?_)
  ·have e:s.length<2:=by have:=of_decide_eq_true e; omega
   rw [xJ _ (bx _) fun i h0 hi=>by omega,f9]
  ·have e:2<=s.length:=by have:=of_decide_eq_false e; omega
   refine bL (fun n t=>t=((n+1:Nat):Int)/\n+1<=s.length/\∀ i,i≠0->i<n+1->s[i-1]? ≠ s[i]?) (fun r=>(r = .go ()/\r5 s s.length=s)∨r = .out (r5 s s.length)) (s.length-1) ⟨rfl,by omega,fun i h0 hi=>by omega⟩ (fun n t hn hI=>?_) (fun r hr=>?_)
   ·obtain⟨rfl,hI1,hI2⟩:=hI;unfold mC;by_cases O:n+1<s.length
    ·have hx:s[n+1]? = some s[n+1]:=bh O;have hy:s[n]? = some s[n]:=bh (by omega);rw [dlt O,cond_true,aV,hx,al,wb (by omega) (by omega),show (((n+1:Nat):Int)-1)=((n:Nat):Int) by omega,aV,hy,al];show Ok (cond (IQ s[n+1] s[n]) _ _) _;cases hq:IQ s[n+1] s[n]
     ·rw [cond_false];unfold mA;rw [cy (by omega)];refine aq ⟨by omega,rfl,by omega,fun i h0 hi=>?_⟩;by_cases hin:i=n+1
      ·subst hin;rw [Gn,hx,hy];have:=JD hq;exact fun h=>this (bJ h).symm
      ·exact hI2 i h0 (by omega)
     ·rw [cond_true,vX (by omega),al];have heq:=hE _ (dG _) _ (dG _) hq;refine bL (fun m t=>∃ s' kk,t=(s',((kk:Nat):Int),((m+1:Nat):Int))/\s'.length=s.length/\s'.take kk=r5 s (n+1+(m+1))/\s'.drop (n+1+m)=s.drop (n+1+m)/\kk<=n+1+m/\n+1+(m+1)<=s.length)
       (fun t=>∃ s' kk,t=(s',((kk:Nat):Int))/\s'.length=s.length/\kk<=s.length/\s'.take kk=r5 s s.length) (s.length-(n+2))
       ⟨s,n+1,rfl,rfl,?_,rfl,by omega,by omega⟩ (fun m t hm hJ=>?_) (fun t ht=>?_)
      ·rw [kj,zz hx (by omega) (by rw [Gn,hy,heq]),xJ (n+1) (by omega) hI2]
      ·obtain⟨s',kk,rfl,e1,e2,e3,e4,e5⟩:=hJ;have hgt:∀ j,n+1+m<=j->s'[j]? = s[j]?:=fun j hj=>by
        have:=congrArg (fun l=>l[j-(n+1+m)]?) e3;simp only [qT] at this;rwa [show n+1+m+(j-(n+1+m))=j by omega] at this
       unfold mB;dsimp only;rw [gP,gP];by_cases hk2:n+1+(m+1)<s.length
       ·have hz:s[n+1+(m+1)]? = some s[n+1+(m+1)]:=bh hk2;have hz0:s[n+1+m]? = some s[n+1+m]:=bh (by omega);have w0:IntKind.i64.wrap (((m+1:Nat):Int)-1)=(m:Int):=by rw [wb (by omega) (by omega)]; omega
        rw [decide_eq_true (by omega),cond_true,w0];have g1:decide ((0:Int)<=((m+1:Nat):Int))=true:=decide_eq_true (by omega);have g2:decide ((0:Int)<=(m:Int))=true:=decide_eq_true (by omega);have g3:decide ((m:Int)<((s.length-(n+1):Nat):Int))=true:=decide_eq_true (by omega);have a1:((n+1:Nat):Int)+((m+1:Nat):Int)=((n+1+(m+1):Nat):Int):=by omega
        have a2:((n+1:Nat):Int)+(m:Int)=((n+1+m:Nat):Int):=by omega
        rw [g1,g2,g3,a1,a2];simp only [gd,cond_true];rw [aV,aV,aV,hgt _ (by omega),hgt _ (by omega),hz,hz0];simp only [al];show Ok (cond (!IQ s[n+1+(m+1)] s[n+1+m]) _ _) _;unfold jL;rw [cy (by omega),cy (by omega),bh (by omega:kk<s'.length),al,gP];cases hq2:IQ s[n+1+(m+1)] s[n+1+m]
        ·simp only [mL,cond_true];refine aq ⟨by omega,_,kk+1,rfl,by simp [e1],?_,?_,by omega,by omega⟩
         ·rw [bI (x:=s[n+1+(m+1)]) (Ag (by omega)),List.take_set_of_le (bx _),e2,show n+1+(m+1+1)=n+1+(m+1)+1 from rfl,zy hz (.inr ?_)];rw [show n+1+(m+1)-1=n+1+m by omega,hz0];exact fun h=>(JD hq2) (bJ h).symm
         ·rw [List.drop_set_of_lt (by omega)];have:=congrArg (List.drop 1) e3;simpa [DA,Gm,my] using this
        ·simp only [eE,cond_false];refine aq ⟨by omega,_,kk,rfl,e1,?_,?_,by omega,by omega⟩
         ·rw [e2,show n+1+(m+1+1)=n+1+(m+1)+1 from rfl,zz hz (by omega) (by rw [show n+1+(m+1)-1=n+1+m by omega,hz0,hE _ (dG _) _ (dG _) hq2])]
         ·have:=congrArg (List.drop 1) e3;simpa [DA,Gm,my] using this
       ·rw [decide_eq_false (by omega),cond_false];exact aq ⟨s',kk,rfl,e1,by omega,by rw [e2,show n+1+(m+1)=s.length by omega]⟩
      ·obtain⟨s',kk,rfl,e1,e2,e3⟩:=ht;unfold jK;dsimp only;rw [vX (by omega),al];simp only [gP,Ff,jA];rw [vm (by simp; omega),al];refine aq (.inr ?_);rw [List.take_append_of_le_length (by simp; omega),List.take_take,Nat.min_self,e3]
    ·have hn2:n+1=s.length:=by omega
     rw [Hj O,cond_false];refine aq (.inl ⟨rfl,?_⟩);rw [xJ _ (bx _) fun i h0 hi=>hI2 i h0 (by omega),f9]
   ·rcases hr with⟨rfl,h⟩ | rfl
    ·exact aq h.symm
    ·exact aq rfl
 obtain⟨y,e,rfl⟩:=key;exact e
end
section
open Go.Lib hiding intOf
variable {k:Nat} {x:dz}
noncomputable def vK (l:List aL) (inp:ae->ByteArray) (k:ae):ByteArray:=if k.k=30 then inp k else Vd l inp (AC k).toNat
section
variable (l:List aL) (inp:ae->ByteArray) (V:Nat->ByteArray) (r:aL)
noncomputable def kT:Nat->List ae
 | 0=>[]
 | k+1=>match r.c[k]? with
  | none=>kT k
  | some x=>kT k++[oh l x (eW l inp V r k)]
end
section
variable {l:List aL} {inp inp':ae->ByteArray}
theorem ur {c:Nat}:vK l inp (bO c)=inp (bO c):=if_pos rfl
theorem zY {n:Nat}:(rk l n).k≠30:=by rcases vh (l:=l) (n:=n) with h | h <;> rw [h] <;> decide
theorem yu {n:Nat} (h:n<100):vK l inp (rk l n)=Vd l inp n:=by
 unfold vK;rw [if_neg zY,AR h,gP]
theorem FD {n:Nat}:lY (rk l n)=decide ((aW l)[n]? = some true):=by
 unfold lY;rcases rV (l:=l) (n:=n) with⟨h,h2⟩|⟨h,h2⟩
 ·rw [h,decide_eq_false h2]; rfl
 ·rw [h,decide_eq_true h2]; rfl
theorem Hf {c:Nat}:lY (bO c)=false:=rfl
section
variable {V:Nat->ByteArray} {r:aL}
theorem rp (hx:r.c[k]? = some x):kT l inp V r (k+1)=kT l inp V r k++[oh l x (eW l inp V r k)]:=by
 show (match r.c[k]? with | none=>_ | some x=>_)=_;rw [hx]
theorem CY:∀ {k:Nat},k<=r.c.length->(kT l inp V r k).length=k
 | 0,_=>rfl
 | k+1,h=>by
  rw [rp (bh (show k<r.c.length by omega)),br,CY (by omega)]; rfl
theorem zQ:∀ {j k:Nat},j<=k->∀ x∈kT l inp V r j,x∈kT l inp V r k
 | j,0,h,x,hx=>by rwa [show j=0 by omega] at hx
 | j,k+1,h,x,hx=>by
  rcases e9 j (k+1) with h1 | h1
  ·have h2:=zQ (show j<=k by omega) x hx;show x∈(match r.c[k]? with | none=>_ | some y=>_);cases r.c[k]? with
   | none=>exact h2
   | some y=>exact mb _ h2
  ·rwa [show j=k+1 by omega] at hx
theorem M6 {x:ae} (h:x∈kT l inp V r k):∃ j y,j<k/\r.c[j]? = some y/\x=oh l y (eW l inp V r j):=by
 induction k with
 | zero=>cases h
 | succ k ih =>
  have h:x∈(match r.c[k]? with | none=>kT l inp V r k | some y=>kT l inp V r k++[oh l y (eW l inp V r k)]):=h;cases hy:r.c[k]? with
  | none =>
   rw [hy] at h;obtain⟨j,y,h1,h2⟩:=ih h;exact⟨j,y,by omega,h2⟩
  | some y =>
   rw [hy] at h;rcases cM.1 h with h | h
   ·obtain⟨j,y,h1,h2⟩:=ih h;exact⟨j,y,by omega,h2⟩
   ·exact⟨k,y,by omega,hy,cp.1 h⟩
end
section
variable (C:bk l) {n:Nat} {r:aL} (h:l[n]? = some r)
include C h
theorem xH (hx:r.c[k]? = some x) (ls:List ByteArray):nH l inp (Vd l inp) x ls=vK l inp (oh l x ls):=by
 have hl:=C.high;have hn:=aU h;unfold nH;obtain⟨_,⟨hc,c,_,_,e⟩|⟨hc,j,hj,e1,e⟩⟩:=oB C h hx ls
 ·rw [if_pos hc,e,ur]
 ·have:=xe hn;rw [if_neg (by rw [hc]; simp),e,e1,yu (by omega),gP]
theorem tc {V:Nat->ByteArray} {x:ae} (hx:x∈kT l inp V r k):(∃ c,c<10/\x=bO c)∨∃ j,j<B5 (aW l) n/\j<l.length/\x=rk l j:=by
 obtain⟨j,y,_,h2,rfl⟩:=M6 hx;have:=xe (aU h);obtain⟨_,⟨_,c,hc,_,e⟩|⟨_,i,hi,_,e⟩⟩:=oB C h h2 (eW l inp V r j)
 ·exact .inl ⟨c,hc,e⟩
 ·exact .inr ⟨i,hi,by omega,e⟩
theorem vg (hr:r.q=true) (hx:r.c[k]? = some x) (ls:List ByteArray):oh l x ls=oh l x []:=by
 unfold oh;rw [vf C h hr hx ls,vf C h hr hx []]
theorem yO (hr:r.q=true) (V V':Nat->ByteArray):∀ k,kT l inp V r k=kT l inp' V' r k
 | 0=>rfl
 | k+1=>by
  show (match r.c[k]? with | none=>_ | some x=>_)=(match r.c[k]? with | none=>_ | some x=>_);rw [yO hr V V' k];cases hx:r.c[k]? with
  | none=>rfl
  | some x =>
   dsimp only;rw [vg C h hr hx,vg C h hr hx (eW l inp' V' r k)]
theorem C7 (hr:r.q=true) (V:Nat->ByteArray) {v:ByteArray}:∀ {k:Nat},v∈eW l inp V r k->∃ x∈r.c,v=nH l inp V x []
 | 0,hv=>by cases hv
 | k+1,hv=>by
  have hv:v∈(match r.c[k]? with | none=>eW l inp V r k | some x=>eW l inp V r k++[nH l inp V x (eW l inp V r k)]):=hv;cases hx:r.c[k]? with
  | none=>rw [hx] at hv; exact C7 hr V hv
  | some x =>
   rw [hx] at hv;rcases cM.1 hv with hv | hv
   ·exact C7 hr V hv
   ·refine⟨x,az hx,?_⟩;rw [cp.1 hv];unfold nH;rw [vg C h hr hx,vf C h hr hx,vf C h hr hx]
theorem EW (hr:r.q=true) (V:Nat->ByteArray) (hx:x∈r.c):nH l inp V x []∈eW l inp V r r.c.length:=by
 obtain⟨k,O⟩:=dt.1 hx;have key:∀ j,k<j->j<=r.c.length->nH l inp V x []∈eW l inp V r j:=by
  intro j
  induction j with
  | zero=>intro h0; omega
  | succ j ih =>
   intro h1 h2;rw [q8 (bh (show j<r.c.length by omega))];rcases e9 k j with h3 | h3
   ·exact mb _ (ih h3 (by omega))
   ·obtain rfl:k=j:=by omega
    refine ov _ (cp.2 ?_);have e:r.c[k]=x:=by rw [bh (by omega)] at O; exact bJ O
    rw [e];unfold nH;rw [vg C h hr O (eW l inp V r k),vf C h hr O (eW l inp V r k),vf C h hr O []]
 exact key _ (aU O) (bx _)
theorem CF:Vd l inp n=cV (w7 r (eW l inp (Vd l inp) r r.c.length)):=by
 have hD:=An inp C;cases hr:r.q with
 | false=>exact hD.plain n r h hr
 | true =>
  obtain⟨u,e,hu,hb⟩:=hD.ring n r h hr;obtain⟨m,m1,m2,m3⟩:=Hn C h hr (eW l inp (Vd l inp) r r.c.length);have hring:∀ x∈r.c,x.w=false->(aW l)[x.N.toNat]? = some true->∃ w:Nat,nH l inp (Vd l inp) x []=cV w/\w<65536/\∀ q,w.testBit q=true↔RB l inp (Vd l inp) x.N.toNat q:=fun x hx hc hg=>by
   obtain⟨k,O⟩:=dt.1 hx;obtain⟨r2,hr2⟩:∃ r2,l[x.N.toNat]? = some r2:=by
    unfold aW at hg;rw [uy] at hg;obtain⟨r2,h2,_⟩:=Gu.1 hg;exact⟨r2,h2⟩
   have hring2:r2.q=true:=by rw [ji hr2] at hg; exact bJ hg
   obtain⟨w,w1,w2,w3⟩:=hD.ring _ r2 hr2 hring2;refine⟨w,?_,w2,w3⟩;unfold nH;rw [if_neg (by rw [hc]; simp),vf C h hr O []];exact w1
  rw [e,m1];congr 2;refine Gp fun q=>?_;have key:u.testBit q=true↔m.testBit q=true:=by
   rw [hb,m3];constructor
   ·intro hq;cases hq with
    | own h1 h2 =>
     obtain rfl:=bJ (h.symm.trans h1);exact .inl h2
    | ask h1 h2 h3 h4 =>
     obtain rfl:=bJ (h.symm.trans h1);exact .inr ⟨_,EW C h hr _ h2,h4⟩
    | ring h1 h2 h3 h4 h5 =>
     obtain rfl:=bJ (h.symm.trans h1);obtain⟨w,w1,w2,w3⟩:=hring _ h2 h3 h4;refine .inr ⟨_,EW C h hr _ h2,?_⟩;rw [w1,tW w2,gP];exact (w3 q).2 h5
   ·rintro (hq | ⟨v,hv,hq⟩)
    ·exact .own h hq
    ·obtain⟨x,hx,rfl⟩:=C7 C h hr _ hv;by_cases hi:x.w=true∨(aW l)[x.N.toNat]? ≠ some true
     ·exact .ask h hx hi hq
     ·have hc:x.w=false:=by cases hx:x.w with | false=>rfl | true=>exact absurd (.inl hx) hi
      have hg:(aW l)[x.N.toNat]? = some true:=DH fun hne=>hi (.inr hne);obtain⟨w,w1,w2,w3⟩:=hring x hx hc hg;rw [w1,tW w2,gP] at hq;exact .ring h hx hc hg ((w3 q).1 hq)
  cases h1:u.testBit q <;> cases h2:m.testBit q <;> simp_all
theorem Nn (hs:∀ k∈kT l inp (Vd l inp) r r.c.length,vK l inp k=vK l inp' k) (k:Nat) (O:k<=r.c.length):eW l inp (Vd l inp) r k=eW l inp' (Vd l inp') r k/\kT l inp (Vd l inp) r k=kT l inp' (Vd l inp') r k:=by
 induction k with
 | zero =>
  show ([]:List ByteArray)=[]/\([]:List ae)=[];exact⟨rfl,rfl⟩
 | succ k ih =>
  obtain⟨i1,i2⟩:=ih (Nat.le_of_succ_le O);obtain⟨x,hx⟩:∃ x,r.c[k]? = some x:=⟨_,bh O⟩;have e1:nH l inp (Vd l inp) x (eW l inp (Vd l inp) r k)=vK l inp (oh l x (eW l inp (Vd l inp) r k)):=xH C h hx _;have e2:nH l inp' (Vd l inp') x (eW l inp (Vd l inp) r k)=vK l inp' (oh l x (eW l inp (Vd l inp) r k)):=xH C h hx _;have e3:kT l inp (Vd l inp) r (k+1)=kT l inp (Vd l inp) r k++[oh l x (eW l inp (Vd l inp) r k)]:=rp hx;have e4:kT l inp' (Vd l inp') r (k+1)=kT l inp' (Vd l inp') r k++[oh l x (eW l inp' (Vd l inp') r k)]:=rp hx;have e5:eW l inp (Vd l inp) r (k+1)=eW l inp (Vd l inp) r k++[nH l inp (Vd l inp) x (eW l inp (Vd l inp) r k)]:=q8 hx;have e6:eW l inp' (Vd l inp') r (k+1)=eW l inp' (Vd l inp') r k++[nH l inp' (Vd l inp') x (eW l inp' (Vd l inp') r k)]:=q8 hx;have hm:oh l x (eW l inp (Vd l inp) r k)∈kT l inp (Vd l inp) r (k+1):=by
   rw [e3];exact ov _ (cp.2 rfl)
  have hv:=hs _ (zQ O _ hm);rw [<- i1] at e4 e6;rw [<- i2] at e4;refine⟨?_,?_⟩
  ·rw [e5,e6,e1,e2,hv]
  ·rw [e3,e4]
theorem Np (hs:∀ k∈kT l inp (Vd l inp) r r.c.length,vK l inp k=vK l inp' k):Vd l inp n=Vd l inp' n/\kT l inp (Vd l inp) r r.c.length=kT l inp' (Vd l inp') r r.c.length:=by
 obtain⟨h1,h2⟩:=Nn C h hs _ (bx _);exact⟨by rw [CF C h,CF C h,h1],h2⟩
end
theorem Hx (C:bk l) {G:ae->Prop} (hG:∀ n r,l[n]? = some r->G (rk l n)->r.q=true) (hG2:∀ c,¬ G (bO c))
  (hs:∀ n r,l[n]? = some r->G (rk l n)->∀ k∈kT l inp (Vd l inp) r r.c.length,¬ G k->vK l inp k=vK l inp' k) {n q:Nat} (hq:RB l inp (Vd l inp) n q):G (rk l n)->RB l inp' (Vd l inp') n q:=by
 have hl:=C.high
 induction hq with
 | own h1 h2=>exact fun _=>.own h1 h2
 | @ask n q r x h1 h2 h3 h4 =>
  intro hg;have hr:=hG n r h1 hg;obtain⟨k,O⟩:=dt.1 h2;have hm:oh l x []∈kT l inp (Vd l inp) r r.c.length:=by
   rw [<- vg C h1 hr O (eW l inp (Vd l inp) r k)];exact zQ (show k+1<=r.c.length from aU O) _ (by rw [rp O]; exact ov _ (cp.2 rfl))
  have hng:¬ G (oh l x []):=by
   intro hgx;obtain⟨_,⟨hc,c,_,_,e⟩|⟨hc,j,hj,e1,e⟩⟩:=oB C h1 O []
   ·rcases tc C h1 hm with _ | ⟨j,_,_,e2⟩
    ·exact hG2 c (e▸hgx)
    ·rw [e] at e2; exact rI e2
   ·rw [e] at hgx;have e3:(uz x [])=x.N:=vf C h1 hr O [];have:x.N.toNat=j:=by omega
    rw [this] at h3;obtain⟨r2,hr2⟩:∃ r2,l[j]? = some r2:=⟨_,bh (by have:=xe (aU h1); omega)⟩;have:=hG j r2 hr2 hgx;rcases h3 with h3 | h3
    ·rw [hc] at h3; cases h3
    ·exact h3 (by rw [ji hr2,this])
  refine .ask h1 h2 h3 ?_;rw [<- h4,xH C h1 O,xH C h1 O,hs n r h1 hg _ hm hng]
 | @ring n q r x h1 h2 h3 h4 h5 ih =>
  intro hg;have hr:=hG n r h1 hg;obtain⟨k,O⟩:=dt.1 h2;have hm:oh l x []∈kT l inp (Vd l inp) r r.c.length:=by
   rw [<- vg C h1 hr O (eW l inp (Vd l inp) r k)];exact zQ (show k+1<=r.c.length from aU O) _ (by rw [rp O]; exact ov _ (cp.2 rfl))
  have e:oh l x []=rk l x.N.toNat:=by
   unfold oh;rw [if_neg (by rw [h3]; simp),vf C h1 hr O []]
  by_cases hgx:G (rk l x.N.toNat)
  ·exact .ring h1 h2 h3 h4 (ih hgx)
  ·refine .ring h1 h2 h3 h4 ?_;obtain⟨r2,hr2⟩:∃ r2,l[x.N.toNat]? = some r2:=by
    have h4:=h4;unfold aW at h4;rw [uy] at h4;obtain⟨r2,h2,_⟩:=Gu.1 h4;exact⟨r2,h2⟩
   have hring2:r2.q=true:=by rw [ji hr2] at h4; exact bJ h4
   have hlt:=aU hr2;have hv:=hs n r h1 hg _ hm (by rw [e]; exact hgx);rw [e,yu (by omega),yu (by omega)] at hv;obtain⟨u,u1,u2,u3⟩:=(An inp C).ring _ r2 hr2 hring2;obtain⟨w,w1,w2,w3⟩:=(An inp' C).ring _ r2 hr2 hring2;rw [u1,w1] at hv;rw [Ar u2 w2 hv] at u3;exact (w3 _).1 ((u3 _).2 h5)
theorem Jl (C:bk l) {G:ae->Prop} (hG:∀ n r,l[n]? = some r->G (rk l n)->r.q=true) (hG2:∀ c,¬ G (bO c))
  (hs:∀ n r,l[n]? = some r->G (rk l n)->∀ k∈kT l inp (Vd l inp) r r.c.length,¬ G k->vK l inp k=vK l inp' k) {n:Nat} {r:aL} (h:l[n]? = some r) (hg:G (rk l n)):Vd l inp n=Vd l inp' n:=by
 have hr:=hG n r h hg;obtain⟨u,u1,u2,u3⟩:=(An inp C).ring _ r h hr;obtain⟨w,w1,w2,w3⟩:=(An inp' C).ring _ r h hr;have hs':∀ n r,l[n]? = some r->G (rk l n)->∀ k∈kT l inp' (Vd l inp') r r.c.length,¬ G k->vK l inp' k=vK l inp k:=fun n r h hg k O hn=>(hs n r h hg k (by rw [yO C h (hG n r h hg) (inp':=inp') (Vd l inp) (Vd l inp')]; exact O) hn).symm;rw [u1,w1];congr 2;refine Gp fun q=>?_;have key:u.testBit q=true↔w.testBit q=true:=by
  rw [u3,w3];exact⟨fun e=>Hx C hG hG2 hs e hg,fun e=>Hx C hG hG2 hs' e hg⟩
 cases h1:u.testBit q <;> cases h2:w.testBit q <;> simp_all
end
end
section
open Go.Lib hiding intOf
variable {g:List ae} {k:ae}
structure VI (l:List aL) (H:Int->ae->ByteArray) (b:ap) (P:ae->Prop):Prop where
 now:∀ k,(mX b k).t=H b.r k
 past:∀ k r,(mX b k).l<=r->r<=b.r->H r k=H b.r k
 recv:∀ m∈b.s,∀ n r,l[n]? = some r->m.b=rk l n->m.t=Vd l (H m.u) n/\m.v=kT l (H m.u) (Vd l (H m.u)) r r.c.length
 link:∀ m∈b.s,∀ x∈b.s,x.b∈m.v->(m.u<=x.u/\(x.l<=m.u->x.t=vK l (H m.u) x.b))∨(m.u=b.r/\P x.b/\x.u<b.r)
def yT (b:ap) (P:ae->Prop) (k:ae):Prop:=(∃ c,k=bO c)∨cH b k=true∨P k
section
variable {l:List aL} {H:Int->ae->ByteArray} {b:ap} {P P':ae->Prop}
theorem Dp (hB:jo l b) {x:ar} (hx:x∈b.s):cH b x.b=decide (x.u=b.r):=by
 unfold cH;rw [iX hB.recsA hx rfl]; rfl
theorem VI.of (h:VI l H b P) {recs:List ar} (hr:∀ m∈recs,∃ o∈b.s,m.b=o.b/\m.t=o.t/\m.v=o.v/\m.l=o.l/\m.u=o.u):VI l H ⟨b.r,b.i,recs⟩ P:=by
 refine⟨h.now,h.past,fun m hm n r hn O=>?_,fun m hm x hx hmx=>?_⟩
 ·obtain⟨o,ho,e1,e2,e3,e4,e5⟩:=hr m hm;rw [e2,e3,e5];exact h.recv o ho n r hn (e1▸O)
 ·obtain⟨o,ho,e1,e2,e3,e4,e5⟩:=hr m hm;obtain⟨p,hp,f1,f2,f3,f4,f5⟩:=hr x hx;rw [e5,f1,f2,f4,f5];exact h.link o ho p hp (by rw [<- f1,<- e3]; exact hmx)
theorem VI.weak (h:VI l H b P) (hp:∀ x∈b.s,P x.b->x.u<b.r->P' x.b):VI l H b P' :=
 ⟨h.now,h.past,h.recv,fun m hm x hx hmx=>by
  rcases h.link m hm x hx hmx with h1 | ⟨h1,h2,h3⟩
  ·exact .inl h1
  ·exact .inr ⟨h1,hp x hx h2 h3,h3⟩⟩
theorem VI.ver (C:bk l) (hB:jo l b) (h:VI l H b P) {x:ar} (hx:x∈b.s) (hv:x.u=b.r):x.t=vK l (H b.r) x.b:=by
 have hl:=C.high;obtain⟨n,hn,e⟩:=(hB.recs x hx).key;have:=(h.recv x hx n _ (bh hn) e).1;rw [this,hv,e,yu (by omega)]
theorem VI.put (C:bk l) (hB:jo l b) (h:VI l H b P) {n:Nat} {r:aL} (hn:l[n]? = some r) {q:ar} (q1:q.b=rk l n) (q2:q.t=Vd l (H b.r) n) (q3:q.v=kT l (H b.r) (Vd l (H b.r)) r r.c.length)
  (q4:q.u=b.r) (q5:q.l=b.r∨∃ o∈b.s,o.b=q.b/\o.t=q.t/\q.l=o.l) (ht:∀ k∈q.v,yT b P k):VI l H ⟨b.r,b.i,eY b.s q⟩ P:=by
 have hl:=C.high;have hnl:=aU hn;have hv:q.t=vK l (H b.r) q.b:=by rw [q1,yu (by omega),q2]
 refine⟨h.now,h.past,fun m hm j r' hj O=>?_,fun m hm x hx hr=>?_⟩
 ·rcases gk.1 hm with rfl | ⟨hm,_⟩
  ·have:=aU hj;obtain rfl:n=j:=uK (by omega) (by omega) (q1.symm.trans O);obtain rfl:=bJ (hn.symm.trans hj);rw [q4]; exact⟨q2,q3⟩
  ·exact h.recv m hm j r' hj O
 ·show (_/\_)∨(m.u=b.r/\P x.b/\x.u<b.r);rcases gk.1 hm with rfl | ⟨hmo,hmk⟩
  ·rcases gk.1 hx with rfl | ⟨hxo,hxk⟩
   ·exact .inl ⟨wC _,fun _=>by rw [q4]; exact hv⟩
   ·by_cases hxv:x.u=b.r
    ·exact .inl ⟨by rw [q4,hxv]; exact wC _,fun _=>by rw [q4]; exact h.ver C hB hxo hxv⟩
    ·rcases ht _ hr with⟨c,e⟩ | hv' | hp
     ·obtain⟨j,_,e2⟩:=(hB.recs x hxo).key;exact absurd (e.symm.trans e2) rI
     ·rw [Dp hB hxo] at hv';exact absurd (of_decide_eq_true hv') hxv
     ·have:=(hB.recs x hxo).high;exact .inr ⟨q4,hp,by omega⟩
  ·rcases gk.1 hx with rfl | ⟨hxo,hxk⟩
   ·by_cases hmv:m.u=b.r
    ·exact .inl ⟨by rw [q4,hmv]; exact wC _,fun _=>by rw [hmv]; exact hv⟩
    ·have hmh:=(hB.recs m hmo).high;refine .inl ⟨by rw [q4]; exact hmh,fun hc=>?_⟩;rcases q5 with e | ⟨o,ho,o1,o2,o3⟩
     ·omega
     ·rcases h.link m hmo o ho (by rw [o1]; exact hr) with⟨_,g⟩|⟨g,_⟩
      ·rw [<- o2,<- o1]; exact g (by omega)
      ·exact absurd g hmv
   ·exact h.link m hmo x hxo hr
theorem BW:(g.any fun x=>fa k x)=true↔k∈g:=by
 rw [BA];constructor
 ·rintro⟨x,hx,e⟩;rw [fc.1 e]; exact hx
 ·exact fun h=>⟨k,h,fc.2 rfl⟩
theorem r8 {d:Bool} {rev:Int} {r:ar} (h:r.b∈g):dj g d rev r=if d=true then ⟨r.b,r.t,r.v,r.l,r.u,r.a,true⟩ else ⟨r.b,r.t,r.v,r.l,rev,r.a,r.y⟩:=by
 unfold dj;rw [if_pos (BW.2 h)]
theorem rj {d:Bool} {rev:Int} {r:ar} (h:r.b ∉ g):dj g d rev r=r:=by
 unfold dj;rw [if_neg (fun e=>h (BW.1 e))]
theorem VI.dirty (h:VI l H b P) (g:List ae):VI l H ⟨b.r,b.i,b.s.map (dj g true b.r)⟩ P:=by
 refine h.of fun m hm=>?_;obtain⟨o,ho,rfl⟩:=cL.1 hm;refine⟨o,ho,?_⟩;by_cases hg:o.b∈g
 ·rw [r8 hg]; exact⟨rfl,rfl,rfl,rfl,rfl⟩
 ·rw [rj hg]; exact⟨rfl,rfl,rfl,rfl,rfl⟩
theorem VI.mark (C:bk l) (hB:jo l b) (h:VI l H b P) (hg:∀ m∈b.s,m.b∈g->(∀ n r,l[n]? = some r->m.b=rk l n->m.t=Vd l (H b.r) n/\m.v=kT l (H b.r) (Vd l (H b.r)) r r.c.length)/\∀ k∈m.v,k∈g∨yT b P k) :
  VI l H ⟨b.r,b.i,b.s.map (dj g false b.r)⟩ P:=by
 have hl:=C.high;have hval:∀ m∈b.s,m.b∈g->m.t=vK l (H b.r) m.b:=fun m hm hmg=>by
  obtain⟨n,hn,e⟩:=(hB.recs m hm).key;rw [((hg m hm hmg).1 n _ (bh hn) e).1,e,yu (by omega)]
 refine⟨h.now,h.past,fun m' hm' n r hn O=>?_,fun m' hm' x' hx' hr=>?_⟩
 ·obtain⟨m,hm,rfl⟩:=cL.1 hm';by_cases hmg:m.b∈g
  ·rw [r8 hmg] at O ⊢;exact (hg m hm hmg).1 n r hn O
  ·rw [rj hmg] at O ⊢;exact h.recv m hm n r hn O
 ·show (_/\_)∨(_=b.r/\P _/\_<b.r);obtain⟨m,hm,rfl⟩:=cL.1 hm';obtain⟨x,hx,rfl⟩:=cL.1 hx';have hmh:=(hB.recs m hm).high;have hxh:=(hB.recs x hx).high;by_cases hmg:m.b∈g
  ·rw [r8 hmg] at hr ⊢;by_cases hxg:x.b∈g
   ·rw [r8 hxg];exact .inl ⟨wC _,fun _=>hval x hx hxg⟩
   ·rw [rj hxg] at hr ⊢;by_cases hxv:x.u=b.r
    ·exact .inl ⟨by show b.r<=_; omega,fun _=>h.ver C hB hx hxv⟩
    ·rcases (hg m hm hmg).2 x.b hr with h1 | ⟨c,e⟩ | hv' | hp
     ·exact absurd h1 hxg
     ·obtain⟨j,_,e2⟩:=(hB.recs x hx).key;exact absurd (e.symm.trans e2) rI
     ·rw [Dp hB hx] at hv';exact absurd (of_decide_eq_true hv') hxv
     ·exact .inr ⟨rfl,hp,by omega⟩
  ·rw [rj hmg] at hr ⊢;by_cases hxg:x.b∈g
   ·rw [r8 hxg] at hr ⊢;refine .inl ⟨hmh,fun hc=>?_⟩;by_cases hmv:m.u=b.r
    ·rw [hmv]; exact hval x hx hxg
    ·rcases h.link m hm x hx hr with⟨_,q⟩|⟨q,_⟩
     ·exact q hc
     ·exact absurd q hmv
   ·rw [rj hxg] at hr ⊢;exact h.link m hm x hx hr
def Uh (l:List aL) (H:Int->ae->ByteArray) (b:ap) (k:ae) (c:Int):Prop :=
 ((∃ i,k=bO i)/\c=(mX b k).l)∨(∃ x∈b.s,x.b=k/\x.t=vK l (H b.r) k/\c=x.l)∨c=b.r
theorem VI.chk (hB:jo l b) (h:VI l H b P) {m:ar} (hm:m∈b.s) (hmv:m.u<b.r) (O:k∈m.v) {c:Int} (hc:Uh l H b k c) (hle:c<=m.u):vK l (H b.r) k=vK l (H m.u) k:=by
 rcases hc with⟨⟨i,rfl⟩,rfl⟩|⟨x,hx,rfl,e,rfl⟩ | rfl
 ·rw [ur,ur,h.past _ _ hle (by omega)]
 ·rcases h.link m hm x hx O with⟨_,g⟩|⟨g,_⟩
  ·rw [<- e]; exact g hle
  ·omega
 ·omega
end
section
variable {l:List aL} {H:Int->ae->ByteArray} {b b0:ap} {V:Nat->ByteArray} {P:ae->Prop} (C:bk l) (hD:GC l (inB b0) V) (hb0:Rm b0.i.length) (hV:V=Vd l (H b.r))
include C hD hb0 hV
theorem GX {s:aA} (hs:wK l V b0 s) (hb:jo l b) (hh:VI l H b P) (O:og l k):Ok (oS vv s b k) fun y=>wK l V b0 y.2/\Uh l H b k y.1:=by
 have hl:=C.high;have fnd:(bj b.s k).2=true->∀ y:ByteArray,(∀ n,n<l.length->k=rk l n->y=V n)->y=(bj b.s k).1.t->Uh l H b k (bj b.s k).1.l:=fun hf y hy e=>by
  obtain⟨h1,h2⟩:=hb.found hf;obtain⟨n,hn,e2⟩:=h1.key;refine .inr (.inl ⟨_,(cB hf).1,h2,?_,rfl⟩);rw [<- e,hy n hn (h2.symm.trans e2),hV,<- h2,e2,yu (by omega)]
 unfold oS;refine aX (oI _) (aS (fun hi=>aX (O4 (hb.rm hl).2.1 k) (aq ⟨hs,.inl ⟨?_,rfl⟩⟩)) (fun hi=>aX (hb.find hl k) (aS (fun hf=>aS (fun hv=>?_) (fun _=>?_)) (fun _=>?_))))
 ·rcases O with⟨c,_,e⟩|⟨n,_,rfl⟩
  ·exact⟨c,e⟩
  ·have:=(oI (rk l n)).symm.trans oW;rw [hi] at this; cases this
 ·refine aq ⟨hs,?_⟩;have h1:=cB hf;exact .inr (.inl ⟨_,h1.1,h1.2,by rw [hh.ver C hb h1.1 (by simpa using hv),h1.2],rfl⟩)
 ·refine aP (Qg C hD hb0 hs O) fun y hy=>?_;unfold iN;cases he:(y.1.toList==(bj b.s k).1.t.toList) with
  | true=>exact aq ⟨hy.1,fnd hf y.1 hy.2 (Fc (by simpa [ByteArray.toList_eq] using he))⟩
  | false=>exact aq ⟨hy.1,.inr (.inr rfl)⟩
 ·exact aq ⟨hs,.inr (.inr rfl)⟩
end
end
section
open Go.Lib hiding intOf
def Nv (b:ap) (k:ae):Prop:=(bj b.s k).2=true/\(bj b.s k).1.y=false/\cH b k=false
def gm (b:ap) (k m:ae):Prop:=if lY k=true then iE (Ek b.s b.r) k m/\iE (Ek b.s b.r) m k else m=k
def DR (b:ap) (k:ae) (g:List ae):Prop:=(wG b.s b.r k=false/\g=[k])∨(wG b.s b.r k=true/\Ud b.s b.r k g)
theorem MX {b:ap} (I:LE b.s) (k:ae):Ok (tQ b.s b.r k) fun m=>m.length<=1000/\k∈m/\DR b k m:=by
 cases ho:wG b.s b.r k with
 | true=>exact (M9 I ho).mono fun m hm=>⟨hm.len I ho,(hm.2 k).2 ⟨.refl,.refl⟩,.inr ⟨ho,hm⟩⟩
 | false =>
  unfold tQ;rw [yL I.rm,al,ho];exact aq ⟨by simp,cp.2 rfl,.inl ⟨ho,rfl⟩⟩
structure mq (b b':ap):Prop where
 rev:b'.r=b.r
 ins:b'.i=b.i
 ver:ox b b'
 nv:∀ k,Nv b' k->Nv b k/\bj b'.s k=bj b.s k
 grp:∀ k,Nv b' k->∀ m,gm b k m->bj b'.s m=bj b.s m
section
variable {l:List aL} {b b' b'':ap}
theorem eI (hB:jo l b) {k:ae}:wG b.s b.r k=true↔Nv b k/\lY k=true:=by
 unfold wG Nv cH;rw [HW];cases hf:(bj b.s k).2 with
 | false=>simp
 | true =>
  obtain⟨h1,h2⟩:=hB.found hf;have h3:=h1.high;rw [h2];cases hc:lY k <;> cases hd:(bj b.s k).1.y <;> simp
  omega
theorem mq.refl (b:ap):mq b b:=⟨rfl,rfl,ox.refl _,fun _ h=>⟨h,rfl⟩,fun _ _ _ _=>rfl⟩
theorem E0 {α:Type} {E E':α->α->Prop} {S:α->Prop} (hE:∀ y z,S y->S z->E y z->E' y z) {m k:α} (I:∀ y,iE E m y->iE E y k->S y) {y:α} (h:iE E m y):iE E y k->iE E' m y:=by
 induction h with
 | refl=>exact fun _=>.refl
 | @snoc y z h1 h2 ih =>
  intro h3;have h4:iE E y k:=(iE.snoc .refl h2).trans h3;exact .snoc (ih h4) (hE y z (I y h1 h4) (I z (.snoc h1 h2) h3) h2)
theorem EZ {α:Type} {E E':α->α->Prop} {S:α->Prop} (hE:∀ y z,S y->E y z->E' y z/\S z) {m y:α} (hm:S m) (h:iE E m y):iE E' m y/\S y:=by
 induction h with
 | refl=>exact⟨.refl,hm⟩
 | snoc h1 h2 ih =>
  obtain⟨h3,h4⟩:=hE _ _ ih.2 h2;exact⟨.snoc ih.1 h3,h4⟩
theorem mq.up (hB:jo l b) (hB':jo l b') (s:mq b b') {k m:ae} (O:Nv b' k) (h:gm b k m):gm b' k m:=by
 unfold gm at *;by_cases hc:lY k=true
 ·rw [if_pos hc] at h ⊢;have hsame:∀ y,gm b k y->bj b'.s y=bj b.s y:=s.grp k O;have hg:∀ y,iE (Ek b.s b.r) k y->iE (Ek b.s b.r) y k->bj b'.s y=bj b.s y:=fun y h1 h2=>hsame y (by unfold gm; rw [if_pos hc]; exact⟨h1,h2⟩);have hE:∀ y z,bj b'.s y=bj b.s y->bj b'.s z=bj b.s z->Ek b.s b.r y z->Ek b'.s b'.r y z:=fun y z h1 h2 ⟨e1,e2,e3⟩=>by
   refine⟨?_,?_,?_⟩
   ·unfold wG at e1 ⊢; rw [h1,s.rev]; exact e1
   ·unfold AG at e2 ⊢; rw [h1]; exact e2
   ·unfold wG at e3 ⊢; rw [h2,s.rev]; exact e3
  exact⟨E0 (S:=fun y=>bj b'.s y=bj b.s y) hE (k:=k) (fun y h1 h2=>hg y h1 h2) h.1 h.2,
   E0 (S:=fun y=>bj b'.s y=bj b.s y) hE (k:=k) (fun y h1 h2=>hg y (h.1.trans h1) h2) h.2 .refl⟩
 ·rw [if_neg hc] at h ⊢; exact h
theorem mq.down (hB:jo l b) (hB':jo l b') (s:mq b b') {k m:ae} (O:Nv b' k) (h:gm b' k m):gm b k m:=by
 unfold gm at *;by_cases hc:lY k=true
 ·rw [if_pos hc] at h ⊢;have hE:∀ y z,Nv b' y->Ek b'.s b'.r y z->Ek b.s b.r y z/\Nv b' z:=fun y z hy ⟨e1,e2,e3⟩=>by
   have hz:=((eI hB').1 e3);obtain⟨y1,y2⟩:=s.nv y hy;obtain⟨z1,z2⟩:=s.nv z hz.1;refine⟨⟨?_,?_,?_⟩,hz.1⟩
   ·exact (eI hB).2 ⟨y1,((eI hB').1 e1).2⟩
   ·unfold AG at e2 ⊢; rw [<- y2]; exact e2
   ·exact (eI hB).2 ⟨z1,hz.2⟩
  obtain⟨h1,h2⟩:=EZ hE O h.1;exact⟨h1,(EZ hE h2 h.2).1⟩
 ·rw [if_neg hc] at h ⊢; exact h
theorem mq.trans (hB:jo l b) (hB':jo l b') (s:mq b b') (t:mq b' b''):mq b b'' :=
 ⟨t.rev.trans s.rev,t.ins.trans s.ins,s.ver.trans t.ver,fun k O=>by
  obtain⟨h1,h2⟩:=t.nv k O;obtain⟨h3,h4⟩:=s.nv k h1;exact⟨h3,h2.trans h4⟩,fun k O m hm=>by
  have h1:=(t.nv k O).1;exact (t.grp k O m (s.up hB hB' h1 hm)).trans (s.grp k h1 m hm)⟩
theorem DR.mem (hB:jo l b) {k:ae} (O:Nv b k) {g:List ae} (h:DR b k g) (m:ae):m∈g↔gm b k m:=by
 unfold gm;rcases h with⟨h1,rfl⟩|⟨h1,h2⟩
 ·have:¬ lY k=true:=fun hc=>by rw [(eI hB).2 ⟨O,hc⟩] at h1; cases h1
  rw [if_neg this,cp]
 ·rw [if_pos ((eI hB).1 h1).2];exact h2.2 m
theorem yf {recs recs':List ar} {g:List ae}:∀ {h:List ae},(∀ m∈h,bj recs' m=bj recs m)->dH recs' g h=dH recs g h
 | [],_=>rfl
 | m::h,hm=>by
  have ih:=yf (g:=g) (h:=h) fun x hx=>hm x (lp _ hx);have e:=hm m dF;unfold dH at *;rw [wD,wD,ih];congr 1;unfold IS AG;rw [e]
theorem mq.group (hB:jo l b) (hB':jo l b') (s:mq b b') {k:ae} (O:Nv b' k) {g g':List ae} (hg:DR b k g) (hg':DR b' k g'):g'=g/\dH b'.s g' g'=dH b.s g g:=by
 have hk0:=(s.nv k O).1;have hmem:∀ m,m∈g'↔m∈g:=fun m=>by
  rw [hg'.mem hB' O,hg.mem hB hk0];exact⟨s.down hB hB' O,s.up hB hB' O⟩
 have e:g'=g:=by
  rcases hg with⟨h1,rfl⟩|⟨h1,h2⟩ <;> rcases hg' with⟨h3,rfl⟩|⟨h3,h4⟩
  ·rfl
  ·have:=((eI hB').1 h3).2;rw [(eI hB).2 ⟨hk0,this⟩] at h1; cases h1
  ·have:=((eI hB).1 h1).2;rw [(eI hB').2 ⟨O,this⟩] at h3; cases h3
  ·exact HF h4.1 h2.1 hmem
 subst e;exact⟨rfl,yf fun m hm=>s.grp k O m ((hg.mem hB hk0 m).1 hm)⟩
theorem mq.mark (hB:jo l b) {k0:ae} {g:List ae} (hg:DR b k0 g) (d:Bool):mq b ⟨b.r,b.i,b.s.map (dj g d b.r)⟩:=by
 have hf:=vI hB.recsA g d b.r;have hout:∀ k,k ∉ g->bj (b.s.map (dj g d b.r)) k=bj b.s k:=fun k O=>by
  rw [hf];cases h1:(bj b.s k).2 with
  | true =>
   rw [if_pos rfl,rj (by rw [(cB h1).2]; exact O),<- h1]
  | false=>rw [if_neg (by simp),(rL h1).1]
 have hin:∀ k,k∈g->¬ Nv ⟨b.r,b.i,b.s.map (dj g d b.r)⟩ k:=fun k O ⟨h1,h2,h3⟩=>by
  have h1:(bj (b.s.map (dj g d b.r)) k).2=true:=h1;have h2:(bj (b.s.map (dj g d b.r)) k).1.y=false:=h2;have h3:((bj (b.s.map (dj g d b.r)) k).2&&decide ((bj (b.s.map (dj g d b.r)) k).1.u=b.r))=false:=h3;cases h4:(bj b.s k).2 with
  | false=>rw [hf,h4] at h1; cases h1
  | true =>
   rw [hf,h4,if_pos rfl,r8 (by rw [(cB h4).2]; exact O)] at h2 h3;cases d with
   | true=>cases h2
   | false=>simp at h3
 refine⟨rfl,rfl,NJ hB g d,fun k O=>?_,fun k O m hm=>?_⟩
 ·have h1:k ∉ g:=fun h=>hin k h O;have e:=hout k h1;refine⟨?_,e⟩;obtain⟨a1,a2,a3⟩:=O;unfold cH at a3;have a1:(bj (b.s.map (dj g d b.r)) k).2=true:=a1;have a2:(bj (b.s.map (dj g d b.r)) k).1.y=false:=a2;have a3:((bj (b.s.map (dj g d b.r)) k).2&&decide ((bj (b.s.map (dj g d b.r)) k).1.u=b.r))=false:=a3;rw [e] at a1 a2 a3;exact⟨a1,a2,a3⟩
 ·have h1:k ∉ g:=fun h=>hin k h O;have hk0:Nv b k:=by
   have e:=hout k h1;obtain⟨a1,a2,a3⟩:=O;have a1:(bj (b.s.map (dj g d b.r)) k).2=true:=a1;have a2:(bj (b.s.map (dj g d b.r)) k).1.y=false:=a2;have a3:((bj (b.s.map (dj g d b.r)) k).2&&decide ((bj (b.s.map (dj g d b.r)) k).1.u=b.r))=false:=a3;rw [e] at a1 a2 a3;exact⟨a1,a2,a3⟩
  refine hout m fun hmg=>h1 ?_;unfold gm at hm;by_cases hc:lY k=true
  ·rw [if_pos hc] at hm;have hok:=(eI hB).2 ⟨hk0,hc⟩;have hom:=qQ hok hm.1;rcases hg with⟨q1,rfl⟩|⟨q1,q2⟩
   ·rw [cp.1 hmg,q1] at hom; cases hom
   ·obtain⟨q3,q4⟩:=(q2.2 m).1 hmg;exact (q2.2 k).2 ⟨q3.trans hm.2,hm.1.trans q4⟩
  ·rw [if_neg hc] at hm;rw [<- hm]; exact hmg
theorem mq.put (hB:jo l b) {q:ar} (hv:q.u=b.r) (ho:wG b.s b.r q.b=false):mq b ⟨b.r,b.i,eY b.s q⟩:=by
 have hf:=xL hB.recsA q;have hin:¬ Nv ⟨b.r,b.i,eY b.s q⟩ q.b:=fun ⟨_,_,h3⟩=>by rw [(Gh hB hv).2] at h3; cases h3
 have hout:∀ k,k≠q.b->bj (eY b.s q) k=bj b.s k:=fun k O=>by rw [hf,if_neg O]
 have hnv:∀ k,Nv ⟨b.r,b.i,eY b.s q⟩ k->Nv b k/\bj (eY b.s q) k=bj b.s k:=fun k O=>by
  have h1:k≠q.b:=fun h=>hin (h▸O);have e:=hout k h1;obtain⟨a1,a2,a3⟩:=O;have a1:(bj (eY b.s q) k).2=true:=a1;have a2:(bj (eY b.s q) k).1.y=false:=a2;have a3:((bj (eY b.s q) k).2&&decide ((bj (eY b.s q) k).1.u=b.r))=false:=a3;rw [e] at a1 a2 a3;exact⟨⟨a1,a2,a3⟩,e⟩
 refine⟨rfl,rfl,(Gh hB hv).1,hnv,fun k O m hm=>hout m fun e=>?_⟩;have hk0:=(hnv k O).1;unfold gm at hm;by_cases hc:lY k=true
 ·rw [if_pos hc] at hm;have:=qQ ((eI hB).2 ⟨hk0,hc⟩) hm.1;rw [e,ho] at this; cases this
 ·rw [if_neg hc] at hm;exact hin (e▸hm▸O)
end
section
variable {l:List aL} {H:Int->ae->ByteArray} {b b':ap} {P P':ae->Prop}
theorem yT.mono (s:mq b b') (hP:∀ k,P k->P' k∨cH b' k=true) {k:ae} (h:yT b P k):yT b' P' k:=by
 rcases h with h | h | h
 ·exact .inl h
 ·exact .inr (.inl (s.ver _ h))
 ·rcases hP k h with h | h
  ·exact .inr (.inr h)
  ·exact .inr (.inl h)
def wh (l:List aL) (H:Int->ae->ByteArray) (b:ap) (P:ae->Prop) (k:ae) (a:Nat):Prop:=∀ g,DR b k g->∀ j,j<a->∀ c,(dH b.s g g)[j]? = some c->yT b P c.s1/\∀ m∈b.s,m.b=c.r1->vK l (H b.r) c.s1=vK l (H m.u) c.s1
theorem wh.zero (k:ae):wh l H b P k 0:=fun _ _ j hj=>absurd hj (by omega)
theorem uc {recs:List ar} {g h:List ae} {c:dD}:c∈dH recs g h↔c.r1∈h/\c.s1∈AG recs c.r1/\c.s1 ∉ g:=by
 unfold dH IS;rw [List.mem_flatMap];constructor
 ·rintro⟨m,hm,hc⟩;obtain⟨y,hy,rfl⟩:=cL.1 hc;rw [gC] at hy;refine⟨hm,hy.1,fun hg=>?_⟩;have:=BW.2 hg;rw [this] at hy;exact absurd hy.2 (by simp)
 ·rintro⟨h1,h2,h3⟩;refine⟨c.r1,h1,cL.2 ⟨c.s1,gC.2 ⟨h2,?_⟩,rfl⟩⟩;cases e:(g.any fun x=>fa c.s1 x) with
  | false=>rfl
  | true=>exact absurd (BW.1 e) h3
theorem wh.step (hl:l.length<=8) (hB:jo l b) (hB':jo l b') (s:mq b b') (hP:∀ k,P k->P' k∨cH b' k=true) {k:ae} {a:Nat} (h:Nv b k->wh l H b P k a) (O:Nv b' k):wh l H b' P' k a:=by
 intro g' hg' j hj c hc;have hk0:=(s.nv k O).1;obtain⟨g,_,_,_,hg⟩:=MX (hB.rm hl).2.2 k;obtain⟨e1,e2⟩:=s.group hB hB' O hg hg';rw [e2] at hc;obtain⟨h1,h2⟩:=h hk0 g hg j hj c hc;refine⟨h1.mono s hP,fun m hm hmk=>?_⟩;obtain⟨c1,c2,c3⟩:=uc.1 (az hc);have hf:=s.grp k O c.r1 ((hg.mem hB hk0 _).1 c1);have hm':(bj b'.s c.r1)=(m,true):=iX hB'.recsA hm hmk;rw [hf] at hm';have hmb:m∈b.s:=by have:=(cB (l:=b.s) (k:=c.r1) (by rw [hm'])).1; rw [hm'] at this; exact this
 rw [s.rev];exact h2 m hmb hmk
end
end
section
open Go.Lib hiding intOf
section
variable {l:List aL} {H:Int->ae->ByteArray} {b:ap} {P:ae->Prop}
theorem wh.snoc (hB:jo l b) {k:ae} (O:Nv b k) {a:Nat} (h:wh l H b P k a) {g:List ae} (hg:DR b k g) {c:dD} (hc:(dH b.s g g)[a]? = some c) (ht:yT b P c.s1) (hv:∀ m∈b.s,m.b=c.r1->vK l (H b.r) c.s1=vK l (H m.u) c.s1):wh l H b P k (a+1):=by
 intro g' hg' j hj d hd;obtain⟨e1,_⟩:=(mq.refl b).group hB hB O hg hg';subst e1;rcases e9 j a with h1 | h1
 ·exact h g' hg' j h1 d hd
 ·obtain rfl:j=a:=by omega
  rw [hc] at hd;obtain rfl:=bJ hd;exact⟨ht,hv⟩
theorem H9 (C:bk l) (hB:jo l b) (h:VI l H b P) {y z:ae} (hy:wG b.s b.r y=true) (hs:iE (Ek b.s b.r) y z):(bj b.s y).1.u<=(bj b.s z).1.u:=by
 induction hs with
 | refl=>exact wC _
 | @snoc u w h1 h2 ih =>
  refine Int.le_trans ih ?_;obtain⟨e1,e2,e3⟩:=h2;obtain⟨⟨a1,a2,a3⟩,_⟩:=(eI hB).1 e1;obtain⟨⟨b1,b2,b3⟩,_⟩:=(eI hB).1 e3;obtain⟨c1,c2⟩:=cB a1;obtain⟨d1,d2⟩:=cB b1;rcases h.link _ c1 _ d1 (by rw [d2]; exact e2) with⟨q,_⟩|⟨q,_⟩
  ·exact q
  ·unfold cH at a3;rw [a1,q] at a3;simp at a3
theorem Tq (hB:jo l b) {k:ae} (O:Nv b k):(bj b.s k).1∈b.s/\(bj b.s k).1.b=k/\(bj b.s k).1.u<b.r:=by
 obtain⟨h1,h2,h3⟩:=O;obtain⟨h4,h5⟩:=cB h1;refine⟨h4,h5,?_⟩;have:=(hB.recs _ h4).high;unfold cH at h3;rw [h1,t6] at h3;have:=of_decide_eq_false h3;omega
theorem VI.markG (C:bk l) (hB:jo l b) (h:VI l H b P) {k:ae} (O:Nv b k) {g:List ae} (hg:DR b k g) {a:Nat} (hc:wh l H b P k a) (ha:(dH b.s g g).length<=a):VI l H ⟨b.r,b.i,b.s.map (dj g false b.r)⟩ P:=by
 have hl:=C.high;have key:∀ m∈b.s,m.b∈g->∀ x∈m.v,x ∉ g->yT b P x/\vK l (H b.r) x=vK l (H m.u) x:=fun m hm hmg x hx hxg=>by
  have hf:=iX hB.recsA hm rfl;have hmem:(⟨m.b,x⟩:dD)∈dH b.s g g:=uc.2 ⟨hmg,by unfold AG; rw [hf]; exact hx,hxg⟩;obtain⟨j,hj⟩:=dt.1 hmem;obtain⟨q1,q2⟩:=hc g hg j (by have:=aU hj; omega) _ hj;exact⟨q1,q2 m hm rfl⟩
 refine h.mark C hB fun m hm hmg=>⟨?_,fun x hx=>?_⟩
 ·rcases hg with⟨h1,rfl⟩|⟨h1,h2⟩
  ·-- a key by itself
   intro n r hn hkey;have hm1:=cp.1 hmg;have hnc:lY (rk l n)=false:=by
    cases e:lY (rk l n) with
    | false=>rfl
    | true =>
     rw [(eI hB).2 ⟨O,by rw [<- hm1,hkey]; exact e⟩] at h1;cases h1
   obtain⟨v1,v2⟩:=h.recv m hm n r hn hkey;have hs:∀ x∈kT l (H m.u) (Vd l (H m.u)) r r.c.length,vK l (H m.u) x=vK l (H b.r) x:=fun x hx=>by
    have hxg:x ∉ [k]:=fun hxk=>by
     rw [cp,<- hm1,hkey] at hxk;rcases tc C hn hx with⟨c,_,e⟩|⟨j,hj,hjl,e⟩
     ·exact rI (e.symm.trans hxk)
     ·have:j=n:=uK (by omega) (by have:=aU hn; omega) (e.symm.trans hxk);rw [FD] at hnc;unfold B5 at hj;rw [if_neg (of_decide_eq_false hnc)] at hj;omega
    exact ((key m hm hmg x (by rw [v2]; exact hx) hxg).2).symm
   obtain⟨e1,e2⟩:=Np C hn hs;exact⟨v1.trans e1,v2.trans e2⟩
  ·-- a group of aW
   have hmo:∀ x,x∈g->wG b.s b.r x=true:=fun x hx=>qQ h1 ((h2.2 x).1 hx).1;have hver:∀ x,x∈g->(bj b.s x).1.u=(bj b.s k).1.u:=fun x hx=>by
    obtain⟨s1,s2⟩:=(h2.2 x).1 hx;have:=H9 C hB h h1 s1;have:=H9 C hB h (hmo x hx) s2;omega
   have hrec:∀ o∈b.s,o.b∈g->o.u=m.u:=fun o ho hog=>by
    have e1:=hver _ hog;have e2:=hver _ hmg;rw [iX hB.recsA ho rfl] at e1;rw [iX hB.recsA hm rfl] at e2;exact e1.trans e2.symm
   have hring:∀ n r,l[n]? = some r->rk l n∈g->r.q=true:=fun n r hn hg=>by
    have:=((eI hB).1 (hmo _ hg)).2;rw [FD] at this;have:=of_decide_eq_true this;rw [ji hn] at this;exact bJ this
   have hcell:∀ c,bO c ∉ g:=fun c hc=>by
    have:=((eI hB).1 (hmo _ hc)).2;rw [Hf] at this; cases this
   have hs:∀ n r,l[n]? = some r->rk l n∈g->∀ x∈kT l (H m.u) (Vd l (H m.u)) r r.c.length,¬ x∈g->vK l (H m.u) x=vK l (H b.r) x:=fun n r hn hng x hx hxg=>by
    obtain⟨a1,_,_⟩:=((eI hB).1 (hmo _ hng)).1;obtain⟨o1,o2⟩:=cB a1;have hv:=hrec _ o1 (by rw [o2]; exact hng);obtain⟨_,v2⟩:=h.recv _ o1 n r hn o2;rw [hv] at v2;have:=(key _ o1 (by rw [o2]; exact hng) x (by rw [v2]; exact hx) hxg).2;rw [hv] at this;exact this.symm
   intro n r hn hkey;obtain⟨v1,v2⟩:=h.recv m hm n r hn hkey;have hng:rk l n∈g:=hkey▸hmg;have hr:=hring n r hn hng;refine⟨v1.trans (Jl C (G:=fun x=>x∈g) hring hcell hs hn hng),v2.trans (yO C hn hr _ _ _)⟩
 ·by_cases hxg:x∈g
  ·exact .inl hxg
  ·exact .inr (key m hm hmg x hx hxg).1
end
section
variable {l:List aL} {H:Int->ae->ByteArray} {b b0:ap} {V:Nat->ByteArray} {P:ae->Prop} (C:bk l) (hD:GC l (inB b0) V) (hb0:Rm b0.i.length) (hV:V=Vd l (H b.r))
include C hD hb0 hV
theorem IM {s:aA} (hs:wK l V b0 s) (hb:jo l b) (hh:VI l H b P) {k:ae} (O:og l k) (ht:(∃ c,k=bO c)∨cH b k=true∨lY k=true):Ok (qG vv s b k) fun y=>wK l V b0 y.2/\y.1=vK l (H b.r) k:=by
 have hl:=C.high;unfold qG;refine aX (n8 _) (aS (fun hc=>?_) (fun hc=>?_))
 ·refine aP (Qg C hD hb0 hs O) fun y hy=>aq ⟨hy.1,?_⟩;rcases O with⟨c,_,rfl⟩|⟨n,hn,rfl⟩
  ·rw [Hf] at hc; cases hc
  ·show y.1=_;rw [hy.2 n hn rfl,hV,yu (by omega)]
 ·have:Ok (tS b k) fun z=>z.1=vK l (H b.r) k:=by
   unfold tS;refine aX (oI _) (aS (fun hi=>aX (Ht (hb.rm hl).2.1 k) (aq ?_)) (fun hi=>aX (hb.find hl k) ?_))
   ·rcases O with⟨c,_,rfl⟩|⟨n,_,rfl⟩
    ·show (mX b (bO c)).t=_;rw [hh.now,ur]
    ·have:=(oI (rk l n)).symm.trans oW;rw [hi] at this; cases this
   ·have hv:cH b k=true:=by
     rcases ht with⟨c,rfl⟩ | h | h
     ·rw [yF] at hi; cases hi
     ·exact h
     ·rw [h] at hc; cases hc
    unfold cH at hv;rw [lq,decide_eq_true_eq] at hv;rw [hv.1,cond_true,show ((bj b.s k).1.u==b.r)=true by simpa using hv.2];obtain⟨h1,h2⟩:=cB hv.1;refine aq ?_;show (bj b.s k).1.t=_;rw [hh.ver C hb h1 hv.2,h2]
  exact aP this fun y hy=>aq ⟨hs,hy⟩
omit hD hb0 hV in
theorem MM (h:jo l b) {n:Nat} (hn:n<l.length) {v:ByteArray} (hv:v.size<=1000) {reads:List ae} (hr:reads.length<=3) (hg:∀ k∈reads,og l k) :
  ∃ r,tT b (rk l n) v reads=some r/\wj l b.r r/\r.b=rk l n/\r.u=b.r/\r.t=v/\r.v=reads/\(r.l=b.r∨∃ o∈b.s,o.b=r.b/\o.t=r.t/\r.l=o.l):=by
 have hl:=C.high;have hw:IntKind.i64.wrap (1+(reads.length:Int))=1+(reads.length:Int):=ki (by omega) (by omega);have mk:∀ c:Int,0<=c->c<=b.r->(c=b.r∨∃ o∈b.s,o.b=rk l n/\o.t=v/\c=o.l)->∃ r,oQ b (rk l n) v reads c=some r/\wj l b.r r/\r.b=rk l n/\r.u=b.r/\r.t=v/\r.v=reads/\(r.l=b.r∨∃ o∈b.s,o.b=r.b/\o.t=r.t/\r.l=o.l):=fun c h1 h2 h3 =>
  ⟨_,rfl,⟨⟨n,hn,rfl⟩,hv,hr,hg,h1,h2,wC _,by dsimp only; rw [hw]; omega,fun e=>by cases e⟩,rfl,rfl,rfl,rfl,h3⟩
 have hrev:=h.rev;unfold tT;rw [h.find hl,al];have h0:=mk b.r hrev.1 (wC _) (.inl rfl);cases hf:(bj b.s (rk l n)).2 with
 | false =>
  rw [cond_false];exact h0
 | true =>
  rw [cond_true];cases he:((bj b.s (rk l n)).1.t.toList==v.toList) with
  | false=>exact h0
  | true =>
   obtain⟨h1,h2⟩:=h.found hf;have h3:=h1.low;have h4:=h1.mid;have h5:=h1.high;exact mk _ h3 (by omega) (.inr ⟨_,(cB hf).1,h2,Fc (by simpa [ByteArray.toList_eq] using he),rfl⟩)
end
end
end Go.Proofs.YtllbbcgnnoonoaaGreatDoor
