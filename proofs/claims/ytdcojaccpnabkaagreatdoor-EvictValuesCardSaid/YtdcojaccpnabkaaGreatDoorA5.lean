/- Texts of the proof, joined (5). -/
import Derived.Test.YtdcojaccpnabkaaGreatDoorA4
import Derived.Test.YtdcojaccpnabkaaGreatDoorA1
import Derived.Test.YtdcojaccpnabkaaGreatDoorA2
set_option linter.unusedVariables false
set_option linter.unusedSimpArgs false
set_option linter.unusedSectionVars false
namespace Go.Proofs.YtdcojaccpnabkaaGreatDoor
section
open Go.RowKit
open Go.Lib hiding intOf
def Nv (b:ai) (k:ae):Prop:=(aS b.Records k).2=true∧(aS b.Records k).1.Dirty=false∧cA b k=false
def gm (b:ai) (k m:ae):Prop:=if gg k=true then eT (Ek b.Records b.Revision) k m∧eT (Ek b.Records b.Revision) m k else m=k
def xP (b:ai) (k:ae) (g:List ae):Prop:=(o4 b.Records b.Revision k=false∧g=[k])∨(o4 b.Records b.Revision k=true∧KG b.Records b.Revision k g)
theorem BX {b:ai} (hS:Db b.Records) (k:ae):Ok (kP b.Records b.Revision k) fun m=>m.length≤1000∧k∈m∧xP b k m:=by
 cases ho:o4 b.Records b.Revision k with
 | true=>exact (Fa hS ho).mono fun m hm=>⟨hm.len hS ho,(hm.2 k).2 ⟨.refl,.refl⟩,.inr ⟨ho,hm⟩⟩
 | false =>
  unfold kP;rw [tI hS.rm,aD,ho];exact aq ⟨by simp,dq.2 rfl,.inl ⟨ho,rfl⟩⟩
structure e8 (b b':ai):Prop where
 rev:b'.Revision=b.Revision
 ins:b'.Inputs=b.Inputs
 ver:mC b b'
 nv:∀ k,Nv b' k→Nv b k∧aS b'.Records k=aS b.Records k
 grp:∀ k,Nv b' k→∀ m,gm b k m→aS b'.Records m=aS b.Records m
section
variable {l:List aI} {b b' b'':ai}
theorem cQ (hB:dt l b) {k:ae}:o4 b.Records b.Revision k=true↔Nv b k∧gg k=true:=by
 unfold o4 Nv cA;rw [AY];cases hf:(aS b.Records k).2 with
 | false=>simp
 | true =>
  obtain⟨h1,h2⟩:=hB.found hf;have h3:=h1.high;rw [h2];cases hc:gg k <;> cases hd:(aS b.Records k).1.Dirty <;> simp
  omega
theorem e8.refl (b:ai):e8 b b:=⟨rfl,rfl,mC.refl _,fun _ h=>⟨h,rfl⟩,fun _ _ _ _=>rfl⟩
theorem yO {α:Type} {E E':α→α→Prop} {S:α→Prop} (hE:∀ y z,S y→S z→E y z→E' y z) {m k:α} (hS:∀ y,eT E m y→eT E y k→S y) {y:α} (h:eT E m y):eT E y k→eT E' m y:=by
 induction h with
 | refl=>exact fun _=>.refl
 | @snoc y z h1 h2 ih =>
  intro h3;have h4:eT E y k:=(eT.snoc .refl h2).trans h3;exact .snoc (ih h4) (hE y z (hS y h1 h4) (hS z (.snoc h1 h2) h3) h2)
theorem yN {α:Type} {E E':α→α→Prop} {S:α→Prop} (hE:∀ y z,S y→E y z→E' y z∧S z) {m y:α} (hm:S m) (h:eT E m y):eT E' m y∧S y:=by
 induction h with
 | refl=>exact⟨.refl,hm⟩
 | snoc h1 h2 ih =>
  obtain⟨h3,h4⟩:=hE _ _ ih.2 h2;exact⟨.snoc ih.1 h3,h4⟩
theorem e8.up (hB:dt l b) (hB':dt l b') (s:e8 b b') {k m:ae} (hk:Nv b' k) (h:gm b k m):gm b' k m:=by
 unfold gm at *;by_cases hc:gg k=true
 ·rw [if_pos hc] at h ⊢;have hsame:∀ y,gm b k y→aS b'.Records y=aS b.Records y:=s.grp k hk;have hg:∀ y,eT (Ek b.Records b.Revision) k y→eT (Ek b.Records b.Revision) y k→aS b'.Records y=aS b.Records y:=fun y h1 h2=>hsame y (by unfold gm; rw [if_pos hc]; exact⟨h1,h2⟩);have hE:∀ y z,aS b'.Records y=aS b.Records y→aS b'.Records z=aS b.Records z→Ek b.Records b.Revision y z→Ek b'.Records b'.Revision y z:=fun y z h1 h2 ⟨e1,e2,e3⟩=>by
   refine⟨?_,?_,?_⟩
   ·unfold o4 at e1 ⊢; rw [h1,s.rev]; exact e1
   ·unfold uM at e2 ⊢; rw [h1]; exact e2
   ·unfold o4 at e3 ⊢; rw [h2,s.rev]; exact e3
  exact⟨yO (S:=fun y=>aS b'.Records y=aS b.Records y) hE (k:=k) (fun y h1 h2=>hg y h1 h2) h.1 h.2,
   yO (S:=fun y=>aS b'.Records y=aS b.Records y) hE (k:=k) (fun y h1 h2=>hg y (h.1.trans h1) h2) h.2 .refl⟩
 ·rw [if_neg hc] at h ⊢; exact h
theorem e8.down (hB:dt l b) (hB':dt l b') (s:e8 b b') {k m:ae} (hk:Nv b' k) (h:gm b' k m):gm b k m:=by
 unfold gm at *;by_cases hc:gg k=true
 ·rw [if_pos hc] at h ⊢;have hE:∀ y z,Nv b' y→Ek b'.Records b'.Revision y z→Ek b.Records b.Revision y z∧Nv b' z:=fun y z hy ⟨e1,e2,e3⟩=>by
   have hz:=((cQ hB').1 e3);obtain⟨y1,y2⟩:=s.nv y hy;obtain⟨z1,z2⟩:=s.nv z hz.1;refine⟨⟨?_,?_,?_⟩,hz.1⟩
   ·exact (cQ hB).2 ⟨y1,((cQ hB').1 e1).2⟩
   ·unfold uM at e2 ⊢; rw [← y2]; exact e2
   ·exact (cQ hB).2 ⟨z1,hz.2⟩
  obtain⟨h1,h2⟩:=yN hE hk h.1;exact⟨h1,(yN hE h2 h.2).1⟩
 ·rw [if_neg hc] at h ⊢; exact h
theorem e8.trans (hB:dt l b) (hB':dt l b') (s:e8 b b') (t:e8 b' b''):e8 b b'' :=
 ⟨t.rev.trans s.rev,t.ins.trans s.ins,s.ver.trans t.ver,fun k hk=>by
  obtain⟨h1,h2⟩:=t.nv k hk;obtain⟨h3,h4⟩:=s.nv k h1;exact⟨h3,h2.trans h4⟩,fun k hk m hm=>by
  have h1:=(t.nv k hk).1;exact (t.grp k hk m (s.up hB hB' h1 hm)).trans (s.grp k h1 m hm)⟩
theorem xP.mem (hB:dt l b) {k:ae} (hk:Nv b k) {g:List ae} (h:xP b k g) (m:ae):m∈g↔gm b k m:=by
 unfold gm;rcases h with⟨h1,rfl⟩|⟨h1,h2⟩
 ·have:¬ gg k=true:=fun hc=>by rw [(cQ hB).2 ⟨hk,hc⟩] at h1; cases h1
  rw [if_neg this,dq]
 ·rw [if_pos ((cQ hB).1 h1).2];exact h2.2 m
theorem sZ {recs recs':List ad} {g:List ae}:∀ {h:List ae},(∀ m∈h,aS recs' m=aS recs m)→ci recs' g h=ci recs g h
 | [],_=>rfl
 | m::h,hm=>by
  have ih:=sZ (g:=g) (h:=h) fun x hx=>hm x (tR _ hx);have e:=hm m px;unfold ci at *;rw [vn,vn,ih];congr 1;unfold BK uM;rw [e]
theorem e8.group (hB:dt l b) (hB':dt l b') (s:e8 b b') {k:ae} (hk:Nv b' k) {g g':List ae} (hg:xP b k g) (hg':xP b' k g'):g'=g∧ci b'.Records g' g'=ci b.Records g g:=by
 have hk0:=(s.nv k hk).1;have hmem:∀ m,m∈g'↔m∈g:=fun m=>by
  rw [hg'.mem hB' hk,hg.mem hB hk0];exact⟨s.down hB hB' hk,s.up hB hB' hk⟩
 have e:g'=g:=by
  rcases hg with⟨h1,rfl⟩|⟨h1,h2⟩ <;> rcases hg' with⟨h3,rfl⟩|⟨h3,h4⟩
  ·rfl
  ·have:=((cQ hB').1 h3).2;rw [(cQ hB).2 ⟨hk0,this⟩] at h1; cases h1
  ·have:=((cQ hB).1 h1).2;rw [(cQ hB').2 ⟨hk,this⟩] at h3; cases h3
  ·exact AG h4.1 h2.1 hmem
 subst e;exact⟨rfl,sZ fun m hm=>s.grp k hk m ((hg.mem hB hk0 m).1 hm)⟩
theorem e8.mark (hB:dt l b) {k0:ae} {g:List ae} (hg:xP b k0 g) (d:Bool):e8 b ⟨b.Revision,b.Inputs,b.Records.map (cz g d b.Revision)⟩:=by
 have hf:=oP hB.recsA g d b.Revision;have hout:∀ k,k ∉ g→aS (b.Records.map (cz g d b.Revision)) k=aS b.Records k:=fun k hk=>by
  rw [hf];cases h1:(aS b.Records k).2 with
  | true =>
   rw [if_pos rfl,oD (by rw [(bR h1).2]; exact hk),← h1]
  | false=>rw [if_neg (by simp),(pB h1).1]
 have hin:∀ k,k∈g→¬ Nv ⟨b.Revision,b.Inputs,b.Records.map (cz g d b.Revision)⟩ k:=fun k hk ⟨h1,h2,h3⟩=>by
  have h1:(aS (b.Records.map (cz g d b.Revision)) k).2=true:=h1;have h2:(aS (b.Records.map (cz g d b.Revision)) k).1.Dirty=false:=h2;have h3:((aS (b.Records.map (cz g d b.Revision)) k).2&&decide ((aS (b.Records.map (cz g d b.Revision)) k).1.Verified=b.Revision))=false:=h3;cases h4:(aS b.Records k).2 with
  | false=>rw [hf,h4] at h1; cases h1
  | true =>
   rw [hf,h4,if_pos rfl,nG (by rw [(bR h4).2]; exact hk)] at h2 h3;cases d with
   | true=>cases h2
   | false=>simp at h3
 refine⟨rfl,rfl,FG hB g d,fun k hk=>?_,fun k hk m hm=>?_⟩
 ·have h1:k ∉ g:=fun h=>hin k h hk;have e:=hout k h1;refine⟨?_,e⟩;obtain⟨a1,a2,a3⟩:=hk;unfold cA at a3;have a1:(aS (b.Records.map (cz g d b.Revision)) k).2=true:=a1;have a2:(aS (b.Records.map (cz g d b.Revision)) k).1.Dirty=false:=a2;have a3:((aS (b.Records.map (cz g d b.Revision)) k).2&&decide ((aS (b.Records.map (cz g d b.Revision)) k).1.Verified=b.Revision))=false:=a3;rw [e] at a1 a2 a3;exact⟨a1,a2,a3⟩
 ·have h1:k ∉ g:=fun h=>hin k h hk;have hk0:Nv b k:=by
   have e:=hout k h1;obtain⟨a1,a2,a3⟩:=hk;have a1:(aS (b.Records.map (cz g d b.Revision)) k).2=true:=a1;have a2:(aS (b.Records.map (cz g d b.Revision)) k).1.Dirty=false:=a2;have a3:((aS (b.Records.map (cz g d b.Revision)) k).2&&decide ((aS (b.Records.map (cz g d b.Revision)) k).1.Verified=b.Revision))=false:=a3;rw [e] at a1 a2 a3;exact⟨a1,a2,a3⟩
  refine hout m fun hmg=>h1 ?_;unfold gm at hm;by_cases hc:gg k=true
  ·rw [if_pos hc] at hm;have hok:=(cQ hB).2 ⟨hk0,hc⟩;have hom:=jV hok hm.1;rcases hg with⟨q1,rfl⟩|⟨q1,q2⟩
   ·rw [dq.1 hmg,q1] at hom; cases hom
   ·obtain⟨q3,q4⟩:=(q2.2 m).1 hmg;exact (q2.2 k).2 ⟨q3.trans hm.2,hm.1.trans q4⟩
  ·rw [if_neg hc] at hm;rw [← hm]; exact hmg
theorem e8.put (hB:dt l b) {q:ad} (hv:q.Verified=b.Revision) (ho:o4 b.Records b.Revision q.Key=false):e8 b ⟨b.Revision,b.Inputs,i7 b.Records q⟩:=by
 have hf:=uU hB.recsA q;have hin:¬ Nv ⟨b.Revision,b.Inputs,i7 b.Records q⟩ q.Key:=fun ⟨_,_,h3⟩=>by rw [(wx hB hv).2] at h3; cases h3
 have hout:∀ k,k≠q.Key→aS (i7 b.Records q) k=aS b.Records k:=fun k hk=>by rw [hf,if_neg hk]
 have hnv:∀ k,Nv ⟨b.Revision,b.Inputs,i7 b.Records q⟩ k→Nv b k∧aS (i7 b.Records q) k=aS b.Records k:=fun k hk=>by
  have h1:k≠q.Key:=fun h=>hin (h▸hk);have e:=hout k h1;obtain⟨a1,a2,a3⟩:=hk;have a1:(aS (i7 b.Records q) k).2=true:=a1;have a2:(aS (i7 b.Records q) k).1.Dirty=false:=a2;have a3:((aS (i7 b.Records q) k).2&&decide ((aS (i7 b.Records q) k).1.Verified=b.Revision))=false:=a3;rw [e] at a1 a2 a3;exact⟨⟨a1,a2,a3⟩,e⟩
 refine⟨rfl,rfl,(wx hB hv).1,hnv,fun k hk m hm=>hout m fun e=>?_⟩;have hk0:=(hnv k hk).1;unfold gm at hm;by_cases hc:gg k=true
 ·rw [if_pos hc] at hm;have:=jV ((cQ hB).2 ⟨hk0,hc⟩) hm.1;rw [e,ho] at this; cases this
 ·rw [if_neg hc] at hm;exact hin (e▸hm▸hk)
end
section
variable {l:List aI} {H:Int→ae→ByteArray} {b b':ai} {P P':ae→Prop}
theorem uG.mono (s:e8 b b') (hP:∀ k,P k→P' k∨cA b' k=true) {k:ae} (h:uG b P k):uG b' P' k:=by
 rcases h with h | h | h
 ·exact .inl h
 ·exact .inr (.inl (s.ver _ h))
 ·rcases hP k h with h | h
  ·exact .inr (.inr h)
  ·exact .inr (.inl h)
def oa (l:List aI) (H:Int→ae→ByteArray) (b:ai) (P:ae→Prop) (k:ae) (a:Nat):Prop:=∀ g,xP b k g→∀ j,j<a→∀ c,(ci b.Records g g)[j]? = some c→uG b P c.Read∧∀ m∈b.Records,m.Key=c.Member→vK l (H b.Revision) c.Read=vK l (H m.Verified) c.Read
theorem oa.zero (k:ae):oa l H b P k 0:=fun _ _ j hj=>absurd hj (by omega)
theorem nD {recs:List ad} {g h:List ae} {c:bY}:c∈ci recs g h↔c.Member∈h∧c.Read∈uM recs c.Member∧c.Read ∉ g:=by
 unfold ci BK;rw [List.mem_flatMap];constructor
 ·rintro⟨m,hm,hc⟩;obtain⟨y,hy,rfl⟩:=eS.1 hc;rw [gc] at hy;refine⟨hm,hy.1,fun hg=>?_⟩;have:=we.2 hg;rw [this] at hy;exact absurd hy.2 (by simp)
 ·rintro⟨h1,h2,h3⟩;refine⟨c.Member,h1,eS.2 ⟨c.Read,gc.2 ⟨h2,?_⟩,rfl⟩⟩;cases e:(g.any fun x=>db c.Read x) with
  | false=>rfl
  | true=>exact absurd (we.1 e) h3
theorem oa.step (hl:l.length≤8) (hB:dt l b) (hB':dt l b') (s:e8 b b') (hP:∀ k,P k→P' k∨cA b' k=true) {k:ae} {a:Nat} (h:Nv b k→oa l H b P k a) (hk:Nv b' k):oa l H b' P' k a:=by
 intro g' hg' j hj c hc;have hk0:=(s.nv k hk).1;obtain⟨g,_,_,_,hg⟩:=BX (hB.rm hl).2.2 k;obtain⟨e1,e2⟩:=s.group hB hB' hk hg hg';rw [e2] at hc;obtain⟨h1,h2⟩:=h hk0 g hg j hj c hc;refine⟨h1.mono s hP,fun m hm hmk=>?_⟩;obtain⟨c1,c2,c3⟩:=nD.1 (aH hc);have hf:=s.grp k hk c.Member ((hg.mem hB hk0 _).1 c1);have hm':(aS b'.Records c.Member)=(m,true):=jp hB'.recsA hm hmk;rw [hf] at hm';have hmb:m∈b.Records:=by have:=(bR (l:=b.Records) (k:=c.Member) (by rw [hm'])).1; rw [hm'] at this; exact this
 rw [s.rev];exact h2 m hmb hmk
end
end
section
open Go.RowKit
open Go.Lib hiding intOf
noncomputable def psi (l:List aI) (x:aA):Nat:=x.Ran.length+vB (fun n=>!cA x.B (rk l n)||bV x.Busy (rk l n)) l.length
noncomputable def HL (l:List aI) (b:ai):Nat:=vB (fun n=>!cA b (rk l n)) l.length
noncomputable def CF (l:List aI) (m:List (ae×Bool)):Nat:=vB (fun n=>!bV m (rk l n)) l.length
structure vV (l:List aI) (V:Nat→ByteArray) (b0:ai) (x x':aA):Prop where
 ok:zW l V b0 x'
 ver:mC x.B x'.B
 busy:∀ k,bV x'.Busy k=bV x.Busy k
 psi:psi l x'≤psi l x
section
variable {l:List aI} {V:Nat→ByteArray} {b0:ai} {x y z:aA}
theorem vV.refl (h:zW l V b0 x):vV l V b0 x x:=⟨h,mC.refl _,fun _=>rfl,cM _⟩
theorem vV.trans (h:vV l V b0 x y) (k:vV l V b0 y z):vV l V b0 x z:=⟨k.ok,h.ver.trans k.ver,fun q=>(k.busy q).trans (h.busy q),cH k.psi h.psi⟩
theorem Aj {b b':ai} {m m':List (ae×Bool)} (hv:mC b b') (hb:∀ k,bV m' k=true→bV m k=true) (N:Nat):vB (fun n=>!cA b' (rk l n)||bV m' (rk l n)) N≤vB (fun n=>!cA b (rk l n)||bV m (rk l n)) N:=by
 refine y7 (fun n h=>?_) N;rw [tf,sv] at h ⊢;rcases h with h | h
 ·left;cases e:cA b (rk l n) with
  | false=>rfl
  | true=>rw [hv _ e] at h; cases h
 ·exact .inr (hb _ h)
theorem vV.base (h:zW l V b0 x) {b:ai} (hb:dt l b) (hr:b.Revision=x.B.Revision) (hi:b.Inputs=x.B.Inputs) (hv:mC x.B b) {s:ao} (hs:py l V b0 s):vV l V b0 x ⟨s,b,x.Busy,x.Ran,x.E⟩ :=
 ⟨⟨hs,hb,hr.trans h.rev,hi.trans h.ins,h.nd⟩,hv,fun _=>rfl,Nat.add_le_add_left (Aj hv (fun _ e=>e) _) _⟩
def KL (l:List aI) (V:Nat→ByteArray) (b0:ai) (urec:aA→ae→Option aA) (f:Nat):Prop :=
 ∀ x k,zW l V b0 x→psi l x≤8→kB l k→CF l x.Busy<f→Ok (urec x k) fun x'=>vV l V b0 x x'∧(x'.E=0→jX x' k=true)
theorem vz {recs:List ad} {g h:List ae} {c:bY} (hc:c∈ci recs g h):c.Read∈uM recs c.Member:=by
 unfold ci BK at hc;obtain⟨m,_,hm⟩:=List.mem_flatMap.1 hc;obtain⟨y,hy,rfl⟩:=eS.1 hm;exact (gc.1 hy).1
theorem u4 {m m':List (ae×Bool)} (h:∀ k,bV m' k=bV m k):CF l m'=CF l m:=by
 unfold CF;congr 1;funext n;rw [h]
theorem wU {n:Nat}:(decide ((rk l n).Kind=1)||(decide ((rk l n).Kind=2)||decide ((rk l n).Kind=30)))=false:=bO ((iy _).symm.trans pj)
theorem oS {n:Nat}:(decide ((cJ n).Kind=1)||(decide ((cJ n).Kind=2)||decide ((cJ n).Kind=30)))=true:=bO ((iy _).symm.trans mF)
abbrev D3 (rev:Int) (ins:List aT) (recs:List ad) (busy:List (ae×Bool)) (ran:List ae) (e:Int) (rules:List aI) (srev:Int) (sins:List aT) (srecs:List ad) (memo:List (ae×ByteArray)) (seen:List (ae×(List ae))):aA :=
 aA.mk (ao.mk rules (ai.mk srev sins srecs) memo seen) (ai.mk rev ins recs) busy ran e
section
variable {urec:aA→ae→Option aA} {f n:Nat} (hR:a8 l) (hD:y0 l (inB b0) V) (hb0:Rm b0.Inputs.length) (hu:KL l V b0 urec f) (hn:n<l.length) (hx:zW l V b0 x) (hp:psi l x≤8) (hf:CF l x.Busy<f)
include hR hD hb0 hu hn hx hp hf
end
end
end
section
open Go.RowKit
open Go.Lib hiding intOf
section
variable {l:List aI} {H:Int→ae→ByteArray} {b:ai} {P:ae→Prop}
theorem oa.snoc (hB:dt l b) {k:ae} (hk:Nv b k) {a:Nat} (h:oa l H b P k a) {g:List ae} (hg:xP b k g) {c:bY} (hc:(ci b.Records g g)[a]? = some c) (ht:uG b P c.Read) (hv:∀ m∈b.Records,m.Key=c.Member→vK l (H b.Revision) c.Read=vK l (H m.Verified) c.Read):oa l H b P k (a+1):=by
 intro g' hg' j hj d hd;obtain⟨e1,_⟩:=(e8.refl b).group hB hB hk hg hg';subst e1;rcases ik j a with h1 | h1
 ·exact h g' hg' j h1 d hd
 ·obtain rfl:j=a:=by omega
  rw [hc] at hd;obtain rfl:=bO hd;exact⟨ht,hv⟩
theorem Bb (hR:a8 l) (hB:dt l b) (h:VI l H b P) {y z:ae} (hy:o4 b.Records b.Revision y=true) (hs:eT (Ek b.Records b.Revision) y z):(aS b.Records y).1.Verified≤(aS b.Records z).1.Verified:=by
 induction hs with
 | refl=>exact ru _
 | @snoc u w h1 h2 ih =>
  refine Int.le_trans ih ?_;obtain⟨e1,e2,e3⟩:=h2;obtain⟨⟨a1,a2,a3⟩,_⟩:=(cQ hB).1 e1;obtain⟨⟨b1,b2,b3⟩,_⟩:=(cQ hB).1 e3;obtain⟨c1,c2⟩:=bR a1;obtain⟨d1,d2⟩:=bR b1;rcases h.link _ c1 _ d1 (by rw [d2]; exact e2) with⟨q,_⟩|⟨q,_⟩
  ·exact q
  ·unfold cA at a3;rw [a1,q] at a3;simp at a3
theorem HG (hB:dt l b) {k:ae} (hk:Nv b k):(aS b.Records k).1∈b.Records∧(aS b.Records k).1.Key=k∧(aS b.Records k).1.Verified<b.Revision:=by
 obtain⟨h1,h2,h3⟩:=hk;obtain⟨h4,h5⟩:=bR h1;refine⟨h4,h5,?_⟩;have:=(hB.recs _ h4).high;unfold cA at h3;rw [h1,n9] at h3;have:=of_decide_eq_false h3;omega
theorem VI.markG (hR:a8 l) (hB:dt l b) (h:VI l H b P) {k:ae} (hk:Nv b k) {g:List ae} (hg:xP b k g) {a:Nat} (hc:oa l H b P k a) (ha:(ci b.Records g g).length≤a):VI l H ⟨b.Revision,b.Inputs,b.Records.map (cz g false b.Revision)⟩ P:=by
 have hl:=hR.high;have key:∀ m∈b.Records,m.Key∈g→∀ x∈m.Reads,x ∉ g→uG b P x∧vK l (H b.Revision) x=vK l (H m.Verified) x:=fun m hm hmg x hx hxg=>by
  have hf:=jp hB.recsA hm rfl;have hmem:(⟨m.Key,x⟩:bY)∈ci b.Records g g:=nD.2 ⟨hmg,by unfold uM; rw [hf]; exact hx,hxg⟩;obtain⟨j,hj⟩:=gZ.1 hmem;obtain⟨q1,q2⟩:=hc g hg j (by have:=aW hj; omega) _ hj;exact⟨q1,q2 m hm rfl⟩
 refine h.mark hR hB fun m hm hmg=>⟨?_,fun x hx=>?_⟩
 ·rcases hg with⟨h1,rfl⟩|⟨h1,h2⟩
  ·-- a key by itself
   intro n r hn hkey;have hm1:=dq.1 hmg;have hnc:gg (rk l n)=false:=by
    cases e:gg (rk l n) with
    | false=>rfl
    | true =>
     rw [(cQ hB).2 ⟨hk,by rw [← hm1,hkey]; exact e⟩] at h1;cases h1
   obtain⟨v1,v2⟩:=h.recv m hm n r hn hkey;have hs:∀ x∈hJ l (H m.Verified) (Vd l (H m.Verified)) r r.Asks.length,vK l (H m.Verified) x=vK l (H b.Revision) x:=fun x hx=>by
    have hxg:x ∉ [k]:=fun hxk=>by
     rw [dq,← hm1,hkey] at hxk;rcases sL hR hn hx with⟨c,_,e⟩|⟨j,hj,hjl,e⟩
     ·exact oo (e.symm.trans hxk)
     ·have:j=n:=pi (by omega) (by have:=aW hn; omega) (e.symm.trans hxk);rw [zd] at hnc;unfold xX at hj;rw [if_neg (of_decide_eq_false hnc)] at hj;omega
    exact ((key m hm hmg x (by rw [v2]; exact hx) hxg).2).symm
   obtain⟨e1,e2⟩:=Fp hR hn hs;exact⟨v1.trans e1,v2.trans e2⟩
  ·-- a group of aU
   have hmo:∀ x,x∈g→o4 b.Records b.Revision x=true:=fun x hx=>jV h1 ((h2.2 x).1 hx).1;have hver:∀ x,x∈g→(aS b.Records x).1.Verified=(aS b.Records k).1.Verified:=fun x hx=>by
    obtain⟨s1,s2⟩:=(h2.2 x).1 hx;have:=Bb hR hB h h1 s1;have:=Bb hR hB h (hmo x hx) s2;omega
   have hrec:∀ o∈b.Records,o.Key∈g→o.Verified=m.Verified:=fun o ho hog=>by
    have e1:=hver _ hog;have e2:=hver _ hmg;rw [jp hB.recsA ho rfl] at e1;rw [jp hB.recsA hm rfl] at e2;exact e1.trans e2.symm
   have hring:∀ n r,l[n]? = some r→rk l n∈g→r.Ring=true:=fun n r hn hg=>by
    have:=((cQ hB).1 (hmo _ hg)).2;rw [zd] at this;have:=of_decide_eq_true this;rw [fm hn] at this;exact bO this
   have hcell:∀ c,cJ c ∉ g:=fun c hc=>by
    have:=((cQ hB).1 (hmo _ hc)).2;rw [Al] at this; cases this
   have hs:∀ n r,l[n]? = some r→rk l n∈g→∀ x∈hJ l (H m.Verified) (Vd l (H m.Verified)) r r.Asks.length,¬ x∈g→vK l (H m.Verified) x=vK l (H b.Revision) x:=fun n r hn hng x hx hxg=>by
    obtain⟨a1,_,_⟩:=((cQ hB).1 (hmo _ hng)).1;obtain⟨o1,o2⟩:=bR a1;have hv:=hrec _ o1 (by rw [o2]; exact hng);obtain⟨_,v2⟩:=h.recv _ o1 n r hn o2;rw [hv] at v2;have:=(key _ o1 (by rw [o2]; exact hng) x (by rw [v2]; exact hx) hxg).2;rw [hv] at this;exact this.symm
   intro n r hn hkey;obtain⟨v1,v2⟩:=h.recv m hm n r hn hkey;have hng:rk l n∈g:=hkey▸hmg;have hr:=hring n r hn hng;refine⟨v1.trans (B6 hR (G:=fun x=>x∈g) hring hcell hs hn hng),v2.trans (tL hR hn hr _ _ _)⟩
 ·by_cases hxg:x∈g
  ·exact .inl hxg
  ·exact .inr (key m hm hmg x hx hxg).1
end
section
variable {l:List aI} {H:Int→ae→ByteArray} {b b0:ai} {V:Nat→ByteArray} {P:ae→Prop} (hR:a8 l) (hD:y0 l (inB b0) V) (hb0:Rm b0.Inputs.length) (hV:V=Vd l (H b.Revision))
include hR hD hb0 hV
theorem wA {s:ao} (hs:py l V b0 s) (hb:dt l b) (hh:VI l H b P) {k:ae} (hk:kB l k) (ht:(∃ c,k=cJ c)∨cA b k=true∨gg k=true):Ok (kj vv s b k) fun y=>py l V b0 y.2∧y.1=vK l (H b.Revision) k:=by
 have hl:=hR.high;unfold kj;refine aN (fP _) (aB (fun hc=>?_) (fun hc=>?_))
 ·refine aJ (FI hR hD hb0 hs hk) fun y hy=>aq ⟨hy.1,?_⟩;rcases hk with⟨c,_,rfl⟩|⟨n,hn,rfl⟩
  ·rw [Al] at hc; cases hc
  ·show y.1=_;rw [hy.2 n hn rfl,hV,uH (by omega)]
 ·have:Ok (ir b k) fun z=>z.1=vK l (H b.Revision) k:=by
   unfold ir;refine aN (iy _) (aB (fun hi=>aN (Cw (hb.rm hl).2.1 k) (aq ?_)) (fun hi=>aN (hb.find hl k) ?_))
   ·rcases hk with⟨c,_,rfl⟩|⟨n,_,rfl⟩
    ·show (pq b (cJ c)).Value=_;rw [hh.now,sQ]
    ·have:=(iy (rk l n)).symm.trans pj;rw [hi] at this; cases this
   ·have hv:cA b k=true:=by
     rcases ht with⟨c,rfl⟩ | h | h
     ·rw [oS] at hi; cases hi
     ·exact h
     ·rw [h] at hc; cases hc
    unfold cA at hv;rw [nX,decide_eq_true_eq] at hv;rw [hv.1,cond_true,show ((aS b.Records k).1.Verified==b.Revision)=true by simpa using hv.2];obtain⟨h1,h2⟩:=bR hv.1;refine aq ?_;show (aS b.Records k).1.Value=_;rw [hh.ver hR hb h1 hv.2,h2]
  exact aJ this fun y hy=>aq ⟨hs,hy⟩
omit hD hb0 hV in
theorem AP (h:dt l b) {n:Nat} (hn:n<l.length) {v:ByteArray} (hv:v.size≤1000) {reads:List ae} (hr:reads.length≤3) (hg:∀ k∈reads,kB l k) :
  ∃ r,mU b (rk l n) v reads=some r∧mB l b.Revision r∧r.Key=rk l n∧r.Verified=b.Revision∧r.Value=v∧r.Reads=reads∧(r.Changed=b.Revision∨∃ o∈b.Records,o.Key=r.Key∧o.Value=r.Value∧r.Changed=o.Changed):=by
 have hl:=hR.high;have hw:IntKind.i64.wrap (1+(reads.length:Int))=1+(reads.length:Int):=oA (by omega) (by omega);have mk:∀ c:Int,0≤c→c≤b.Revision→(c=b.Revision∨∃ o∈b.Records,o.Key=rk l n∧o.Value=v∧c=o.Changed)→∃ r,kQ b (rk l n) v reads c=some r∧mB l b.Revision r∧r.Key=rk l n∧r.Verified=b.Revision∧r.Value=v∧r.Reads=reads∧(r.Changed=b.Revision∨∃ o∈b.Records,o.Key=r.Key∧o.Value=r.Value∧r.Changed=o.Changed):=fun c h1 h2 h3 =>
  ⟨_,rfl,⟨⟨n,hn,rfl⟩,hv,hr,hg,h1,h2,ru _,by dsimp only; rw [hw]; omega,fun e=>by cases e⟩,rfl,rfl,rfl,rfl,h3⟩
 have hrev:=h.rev;unfold mU;rw [h.find hl,aD];have h0:=mk b.Revision hrev.1 (ru _) (.inl rfl);cases hf:(aS b.Records (rk l n)).2 with
 | false =>
  rw [cond_false];exact h0
 | true =>
  rw [cond_true];cases he:((aS b.Records (rk l n)).1.Value.toList==v.toList) with
  | false=>exact h0
  | true =>
   obtain⟨h1,h2⟩:=h.found hf;have h3:=h1.low;have h4:=h1.mid;have h5:=h1.high;exact mk _ h3 (by omega) (.inr ⟨_,(bR hf).1,h2,ByteArray.ext (by simpa [ByteArray.toList_eq] using he),rfl⟩)
end
end
section
open Go.RowKit
open Go.Lib hiding intOf
section
variable {l:List aI} {H:Int→ae→ByteArray} {b:ai} {P:ae→Prop}
theorem Ab (hR:a8 l) {n i:Nat} (hn:n<l.length) (hi:i<xX (aU l) n):mp (aU l) i≤mp (aU l) n∧((aU l)[n]? ≠ some true→mp (aU l) i<mp (aU l) n):=by
 by_cases hr:(aU l)[n]? = some true
 ·refine⟨?_,fun h=>absurd hr h⟩;by_cases hp:(aU l)[i]? = some true
  ·exact vg hr hi hp
  ·have:=tK hr hi hp;rw [qs hp]; omega
 ·have:=u5 hr hi;exact⟨by omega,fun _=>this⟩
theorem u9 (hR:a8 l) (hB:dt l b) (h:VI l H b P) {m:ad} (hm:m∈b.Records) {n i:Nat} (hn:n<l.length) (hi:i<l.length) (hk:m.Key=rk l n) (hx:rk l i∈m.Reads):mp (aU l) i≤mp (aU l) n∧((aU l)[n]? ≠ some true→mp (aU l) i<mp (aU l) n):=by
 have hl:=hR.high;have hg:=bC hn;rw [(h.recv m hm n _ hg hk).2] at hx;rcases sL hR hg hx with⟨c,_,e⟩|⟨j,hj,hjl,e⟩
 ·exact absurd e.symm oo
 ·obtain rfl:i=j:=pi (by omega) (by omega) e;exact Ab hR hn hj
theorem DT (hR:a8 l) (hB:dt l b) (h:VI l H b P) {y z:ae} (hs:eT (Ek b.Records b.Revision) y z):∀ n,n<l.length→y=rk l n→∃ j,j<l.length∧z=rk l j∧mp (aU l) j≤mp (aU l) n:=by
 induction hs with
 | refl=>exact fun n hn e=>⟨n,hn,e,cM _⟩
 | @snoc u w h1 h2 ih =>
  intro n hn e;obtain⟨j,hj,e1,r1⟩:=ih n hn e;obtain⟨o1,o2,o3⟩:=h2;obtain⟨⟨a1,_,_⟩,_⟩:=(cQ hB).1 o1;obtain⟨⟨b1,_,_⟩,_⟩:=(cQ hB).1 o3;obtain⟨c1,c2⟩:=bR a1;obtain⟨d1,d2⟩:=bR b1;obtain⟨i,hi,e2⟩:=(hB.recs _ d1).key;rw [d2] at e2;have:=(u9 hR hB h c1 hj hi (c2.trans e1) (by rw [← e2]; exact o2)).1;exact⟨i,hi,e2,by omega⟩
theorem Ej (hR:a8 l) (hB:dt l b) (h:VI l H b P) {n i:Nat} (hn:n<l.length) (hi:i<l.length) (hk:Nv b (rk l n)) {g:List ae} (hg:xP b (rk l n) g) {c:bY} (hc:c∈ci b.Records g g) (e:c.Read=rk l i):mp (aU l) i≤mp (aU l) n∧((aU l)[n]? ≠ some true→mp (aU l) i<mp (aU l) n):=by
 obtain⟨c1,c2,c3⟩:=nD.1 hc;have hmem:(aS b.Records c.Member).2=true:=by
  cases hf:(aS b.Records c.Member).2 with
  | true=>rfl
  | false=>unfold uM at c2; rw [(pB hf).1] at c2; cases c2
 obtain⟨f1,f2⟩:=bR hmem;rcases hg with⟨h1,rfl⟩|⟨h1,h2⟩
 ·have:=dq.1 c1;exact u9 hR hB h f1 hn hi (f2.trans this) (by rw [← e]; exact c2)
 ·obtain⟨j,hj,e2,r⟩:=DT hR hB h ((h2.2 _).1 c1).1 n hn rfl;have:=(u9 hR hB h f1 hj hi (f2.trans e2) (by rw [← e]; exact c2)).1;refine⟨by omega,fun hr=>?_⟩;have:=((cQ hB).1 h1).2;rw [zd] at this;exact absurd (of_decide_eq_true this) hr
end
def Pb (x:aA) (k:ae):Prop:=bV x.Busy k=true∧gg k=true
def I9 (l:List aI) (x:aA) (k:ae):Prop:=∀ n,n<l.length→k=rk l n→∀ m,m<l.length→bV x.Busy (rk l m)=true→(aU l)[m]? ≠ some true→mp (aU l) n<mp (aU l) m
structure PV (l:List aI) (V:Nat→ByteArray) (H:Int→ae→ByteArray) (b0:ai) (x x':aA):Prop where
 post:vV l V b0 x x'
 vi:VI l H x'.B (Pb x')
 st:e8 x.B x'.B
 e0:x'.E=0
 rn:∀ k∈x'.Ran,k∈x.Ran∨cA x.B k=false
section
variable {l:List aI} {V:Nat→ByteArray} {H:Int→ae→ByteArray} {b0:ai} {x y z:aA}
theorem z6 (h:∀ k,bV y.Busy k=bV x.Busy k) {k:ae} (hk:Pb x k):Pb y k:=⟨by rw [h]; exact hk.1,hk.2⟩
theorem PV.refl (h:zW l V b0 x) (hv:VI l H x.B (Pb x)) (he:x.E=0):PV l V H b0 x x:=⟨vV.refl h,hv,e8.refl _,he,fun _ h=>.inl h⟩
theorem xv {b b':ai} (h:mC b b') {k:ae} (e:cA b' k=false):cA b k=false:=by
 cases h1:cA b k with
 | false=>rfl
 | true=>rw [h k h1] at e; cases e
theorem PV.trans (hx:zW l V b0 x) (h:PV l V H b0 x y) (k:PV l V H b0 y z):PV l V H b0 x z:=⟨h.post.trans k.post,k.vi,h.st.trans hx.base h.post.ok.base k.st,k.e0,fun q hq=>(k.rn q hq).elim (h.rn q) fun e=>.inr (xv h.st.ver e)⟩
theorem PV.base (h:zW l V b0 x) (he:x.E=0) {b:ai} (hb:dt l b) (st:e8 x.B b) (hv:VI l H b (Pb x)) {s:ao} (hs:py l V b0 s):PV l V H b0 x ⟨s,b,x.Busy,x.Ran,x.E⟩ :=
 ⟨vV.base h hb st.rev st.ins st.ver hs,hv,st,he,fun _ h=>.inl h⟩
theorem B9 (hB:dt l x.B) {k:ae} (hk:kB l k) (h:jX x k=true):uG x.B (Pb x) k:=by
 rcases hk with⟨c,_,rfl⟩|⟨n,_,rfl⟩
 ·exact .inl ⟨c,rfl⟩
 ·unfold jX at h;rw [wU,Bool.false_or,tf,nX] at h;rcases h with h | h
  ·exact .inr (.inr h)
  ·exact .inr (.inl h)
def UV (l:List aI) (V:Nat→ByteArray) (H:Int→ae→ByteArray) (b0:ai) (urec:aA→ae→Option aA) (f:Nat):Prop :=
 ∀ x k,zW l V b0 x→psi l x≤8→kB l k→CF l x.Busy<f→VI l H x.B (Pb x)→x.E=0→I9 l x k→Ok (urec x k) fun x'=>PV l V H b0 x x'∧jX x' k=true
def KJ (l:List aI) (V:Nat→ByteArray) (H:Int→ae→ByteArray) (b0:ai) (x:aA) (n k:Nat):Int×Int×(List aT)×(List ad)×(List (ae×Bool))×(List ae)×Int×(List aI)×Int×(List aT)×(List ad)×(List (ae×ByteArray))×(List (ae×(List ae)))→Prop
 | (at_,rev,ins,recs,busy,ran,e,rules,srev,sins,srecs,memo,seen)=>∃ a:Nat,at_=(a:Int)∧a≤1000000∧PV l V H b0 x (D3 rev ins recs busy ran e rules srev sins srecs memo seen)∧k+HL l (ai.mk rev ins recs)*1000001+(1000000-a)≤20000000∧k≤20000001 ∧
   (Nv (ai.mk rev ins recs) (rk l n)→oa l H (ai.mk rev ins recs) (Pb (D3 rev ins recs busy ran e rules srev sins srecs memo seen)) (rk l n) a)
def Mg (l:List aI) (V:Nat→ByteArray) (H:Int→ae→ByteArray) (b0:ai) (x:aA) (k:ae):Fl (Int×(List aT)×(List ad)×(List (ae×Bool))×(List ae)×Int×(List aI)×Int×(List aT)×(List ad)×(List (ae×ByteArray))×(List (ae×(List ae)))) (Bool×aA)→Prop
 | .go _=>False
 | .out (a,x')=>PV l V H b0 x x'∧(a=false→cA x'.B k=true)∧(a=true→o4 x'.B.Records x'.B.Revision k=false)
section
variable {urec:aA→ae→Option aA} {f n:Nat} (hR:a8 l) (hD:y0 l (inB b0) V) (hb0:Rm b0.Inputs.length) (hV:V=Vd l (H b0.Revision)) (hu:UV l V H b0 urec f) (hn:n<l.length) (hx:zW l V b0 x) (hp:psi l x≤8) (hf:CF l x.Busy<f)
 (hbl:∀ m,m<l.length→bV x.Busy (rk l m)=true→(aU l)[m]? ≠ some true→m≠n→mp (aU l) n<mp (aU l) m)
include hR hD hb0 hV hu hn hx hp hf hbl
theorem Ag {k:Nat} (hk:k≤20000001):∀ s,KJ l V H b0 x n k s→Ok (dO urec vv (rk l n) s.1 s.2.1 s.2.2.1 s.2.2.2.1 s.2.2.2.2.1 s.2.2.2.2.2.1 s.2.2.2.2.2.2.1 s.2.2.2.2.2.2.2.1 s.2.2.2.2.2.2.2.2.1 s.2.2.2.2.2.2.2.2.2.1 s.2.2.2.2.2.2.2.2.2.2.1 s.2.2.2.2.2.2.2.2.2.2.2.1 s.2.2.2.2.2.2.2.2.2.2.2.2) fun y=>match y with
   | .go s'=>k<20000001∧KJ l V H b0 x n (k+1) s'
   | .out y=>Mg l V H b0 x (rk l n) y:=by
 rintro⟨at_,rev,ins,recs,busy,ran,e,rules,srev,sins,srecs,memo,seen⟩ ⟨a,rfl,ha,h1,h2,h3,h4⟩;dsimp only;have hl:=hR.high;have hE:=h1.post.ok;have hB:dt l (ai.mk rev ins recs):=hE.base;have hS:Db recs:=(hB.rm hl).2.2;obtain rfl:e=0:=h1.e0;have hVb:V=Vd l (H (ai.mk rev ins recs).Revision):=by rw [hV]; congr 1; exact congrArg H hE.rev.symm
 unfold dO;refine aB (fun _=>?_) (fun he=>absurd he (by simp));refine aN (hB.find hl _) ?_;unfold fw;refine aB (fun hn1=>aq ⟨h1,(fun e=>by cases e),fun _=>?_⟩) (fun hfound=>?_)
 ·have:(aS recs (rk l n)).2=false:=by simpa using hn1
  show o4 recs rev (rk l n)=false;unfold o4;rw [this]; rfl
 have hfound:(aS recs (rk l n)).2=true:=by simpa using hfound
 refine aB (fun hd=>aq ⟨h1,(fun e=>by cases e),fun _=>?_⟩) (fun hdirty=>?_)
 ·have hd:(aS recs (rk l n)).1.Dirty=true:=hd;show o4 recs rev (rk l n)=false;unfold o4 AX;rw [hd]; simp
 have hdirty:(aS recs (rk l n)).1.Dirty=false:=hdirty;refine aB (fun hver=>aq ⟨h1,(fun _=>?_),fun e=>by cases e⟩) (fun hver=>?_)
 ·show cA (ai.mk rev ins recs) (rk l n)=true;unfold cA;have:(aS recs (rk l n)).1.Verified=rev:=by simpa using hver
  simp [hfound,this]
 have hnv:Nv (ai.mk rev ins recs) (rk l n):=⟨hfound,hdirty,by
  unfold cA;have:(aS recs (rk l n)).1.Verified≠rev:=by simpa using hver
  simp [this]⟩
 have h4:=h4 hnv;refine aJ (BX (b:=ai.mk rev ins recs) hS (rk l n)) fun g ⟨hg1,hg2,hg3⟩=>?_;refine aN (ym hS (by omega)) ?_;have hlen:(ci recs g g).length≤1000000:=by have:=pA hS g g; omega
 have hgm:Rm g.length:=by unfold Rm; omega
 refine aB (fun hat=>?_) (fun hat=>?_)
 ·have hat:=of_decide_eq_true hat;refine aN (wt (b:=ai.mk rev ins recs) (hB.rm hl).1 (hB.rm hl).2.1 hgm false) (aq ⟨h1.trans hx (PV.base hE rfl (hB.mark g false (fun e=>by cases e)) (e8.mark hB hg3 false) (h1.vi.markG hR hB hnv hg3 h4 (by show (ci recs g g).length≤a; omega)) hE.sol),(fun _=>xw hB hfound hg2),fun e=>by cases e⟩)
 ·have hlt:a<(ci recs g g).length:=by have hat:¬ (((ci recs g g).length:Int)≤(a:Int)):=of_decide_eq_false hat; omega
  have hc:=bC hlt;generalize (ci recs g g)[a]=c at hc;have hcm:=aH hc;have hcr:=vz hcm;have hgood:=hB.rdGood (b:=ai.mk rev ins recs) hcr;refine aN (by rw [bf]; exact hc) (aN (Fz hE.base hl c.Read) ?_);refine aB (fun hth=>?_) (fun hth=>?_)
  ·have hth:jX (D3 rev ins recs busy ran 0 rules srev sins srecs memo seen) c.Read=false:=by simpa using hth
   refine aJ (hu _ c.Read hE (cH h1.post.psi hp) hgood (by rw [u4 h1.post.busy]; exact hf) h1.vi rfl ?_) fun x' ⟨g1,ht⟩=>?_
   ·intro i hi ei m hm hbm hrm;have hbm:bV x.Busy (rk l m)=true:=by rw [← h1.post.busy]; exact hbm
    obtain⟨r1,r2⟩:=Ej hR hB h1.vi hn hi hnv hg3 hcm ei;by_cases hmn:m=n
    ·subst hmn; exact r2 hrm
    ·have:=hbl m hm hbm hrm hmn;omega
   refine aq ⟨by omega,a,rfl,ha,h1.trans hx g1,?_,by omega,fun hk'=>?_⟩
   ·obtain⟨j,hj,hcj⟩:∃ j,j<l.length∧c.Read=rk l j:=by
     rcases hgood with⟨q,_,hq⟩ | h
     ·unfold jX at hth;rw [hq,oS] at hth;simp at hth
     ·exact h
    have hlt2:HL l x'.B<HL l (ai.mk rev ins recs):=by
     unfold HL;unfold jX at ht hth;rw [hcj,wU,Bool.false_or] at ht hth;rw [Bool.or_eq_false_iff] at hth;rw [g1.post.busy] at ht;have hth1:(bV busy (rk l j)&&gg (rk l j))=false:=hth.1;have hth2:cA (ai.mk rev ins recs) (rk l j)=false:=hth.2;have ht2:cA x'.B (rk l j)=true:=by
      have ht3:((bV busy (rk l j)&&gg (rk l j))||cA x'.B (rk l j))=true:=ht;rw [hth1,Bool.false_or] at ht3;exact ht3
     refine y8 (i:=j) (fun m hm=>?_) (by rw [ht2]; rfl) (by rw [hth2]; rfl) _ hj;rw [sv] at hm ⊢;cases e:cA (ai.mk rev ins recs) (rk l m) with
     | false=>rfl
     | true=>rw [g1.post.ver _ e] at hm; cases hm
    show k+1+HL l x'.B*1000001+(1000000-a)≤20000000;omega
   ·exact oa.step hl hB g1.post.ok.base g1.st (fun q hq=>.inl (z6 g1.post.busy hq)) (fun _=>h4) hk'
  ·have hth:jX (D3 rev ins recs busy ran 0 rules srev sins srecs memo seen) c.Read=true:=by simpa using hth
   refine aN (hB.find hl _) ?_;unfold fv;refine aJ (vy (b:=ai.mk rev ins recs) hR hD hb0 hVb hE.sol hB h1.vi hgood) fun y ⟨hy,hch⟩=>?_;refine aB (fun _=>?_) (fun hle=>?_)
   ·refine aN (fP _) (aB (fun hcy=>?_) (fun hcy=>?_))
    ·refine aN (wt (b:=ai.mk rev ins recs) (hB.rm hl).1 (hB.rm hl).2.1 hgm true) ?_;have hd:true=true→∀ q∈g,gg q=true:=fun _ q hq=>by
      rcases hg3 with⟨_,rfl⟩|⟨q1,h⟩
      ·rw [dq.1 hq]; exact hcy
      ·exact (zD (jV q1 ((h.2 q).1 hq).1)).1
     refine aq ⟨h1.trans hx (PV.base hE rfl (hB.mark g true hd) (e8.mark hB hg3 true) (h1.vi.dirty g) hy),(fun e=>by cases e),fun _=>?_⟩;have hst:=e8.mark hB hg3 true;cases ho:o4 (recs.map (cz g true rev)) rev (rk l n) with
     | false=>rfl
     | true =>
      have hnv2:=((cQ (hB.mark g true hd)).1 ho).1;have hfe:(aS (recs.map (cz g true rev)) (rk l n)).1.Dirty=false:=hnv2.2.1;rw [oP hB.recsA g true rev,hfound,if_pos rfl,nG (by rw [(bR hfound).2]; exact hg2)] at hfe;cases hfe
    ·refine aq ⟨h1.trans hx (PV.base hE rfl hB (e8.refl _) h1.vi hy),(fun e=>by cases e),fun _=>?_⟩;cases ho:o4 recs rev (rk l n) with
     | false=>rfl
     | true =>
      have:=(zD ho).1;rw [this] at hcy; cases hcy
   ·have hle:=of_decide_eq_false hle;refine aq ⟨by omega,a+1,cR (by omega),by omega,h1.trans hx (PV.base hE rfl hB (e8.refl _) h1.vi hy),?_,by omega,fun hk'=>?_⟩
    ·show k+1+HL l (ai.mk rev ins recs)*1000001+(1000000-(a+1))≤20000000;omega
    ·refine h4.snoc hB hk' hg3 hc (B9 (x:=D3 rev ins recs busy ran 0 rules srev sins srecs memo seen) hB hgood hth) fun m hm hmk=>?_;obtain⟨c1,c2,c3⟩:=nD.1 hcm;have hfm:=jp hB.recsA hm hmk;have hmv:m.Verified<rev:=by
      have hmn:Nv (ai.mk rev ins recs) c.Member:=by
       rcases hg3 with⟨_,rfl⟩|⟨q1,h⟩
       ·rw [dq.1 c1]; exact hnv
       ·exact ((cQ hB).1 (jV q1 ((h.2 _).1 c1).1)).1
      have:=(HG hB hmn).2.2;rw [hfm] at this;exact this
     have hmr:c.Read∈m.Reads:=by unfold uM at c2; have c2:c.Read∈(aS recs c.Member).1.Reads:=c2; rw [hfm] at c2; exact c2
     refine h1.vi.chk hB hm hmv hmr hch ?_;have hle:¬ (aS recs c.Member).1.Verified<y.1:=hle;rw [hfm] at hle;have hle:¬ m.Verified<y.1:=hle;omega
theorem Dj (hv:VI l H x.B (Pb x)) (he:x.E=0):Ok (dS urec vv x (rk l n)) fun y=>PV l V H b0 x y.2∧(y.1=false→cA y.2.B (rk l n)=true)∧(y.1=true→o4 y.2.B.Records y.2.B.Revision (rk l n)=false):=by
 have hl:=hR.high;unfold dS;refine bK (KJ l V H b0 x n) (Mg l V H b0 x (rk l n)) 20000001 ⟨0,rfl,ez _,PV.refl hx hv he,?_,ez _,fun _=>oa.zero _⟩ (fun k s hk hI=>(Ag hR hD hb0 hV hu hn hx hp hf hbl hk s hI).mono fun y hy=>by cases y <;> exact hy) ?_
 ·have:=sE (fun n=>!cA x.B (rk l n)) l.length;show 0+HL l x.B*1000001+(1000000-0)≤20000000;unfold HL;omega
 ·rintro (s | ⟨a,x'⟩) hr
  ·exact absurd hr (fun h=>h)
  ·exact aq hr
end
end
end
section
open Go.RowKit
open Go.Lib hiding intOf
theorem wW {n:Nat} (h:n<65536):(bU (n:Int)).size≤1000:=by
 have h1:(bU n).size=(itoa n).length:=by simp [bU,ByteArray.size]
 have:=tZ n 9 (by omega);rw [h1,jr]; omega
section
variable {l:List aI} {V:Nat→ByteArray} {b0:ai} {x y z:aA}
structure Ran (l:List aI) (V:Nat→ByteArray) (b0:ai) (x:aA) (k:ae) (x':aA):Prop where
 ok:zW l V b0 x'
 ver:mC x.B x'.B
 busy:∀ k,bV x'.Busy k=bV x.Busy k
 psi:(x'.E=0∧psi l x'≤psi l x+1∧cA x'.B k=true)∨(x'.E≠0∧psi l x'≤psi l x)
section
variable {urec:aA→ae→Option aA} {f n:Nat} {r:aI} (hR:a8 l) (hD:y0 l (inB b0) V) (hb0:Rm b0.Inputs.length) (hu:KL l V b0 urec f) (hn:l[n]? = some r) (hp:psi l x≤8) (hf:CF l x.Busy<f)
include hR hD hb0 hu hn hp hf
end
theorem p8 (m:List (ae×Bool)) (k j:ae):bV (de aM k true m) j=(decide (j=k)||bV m j):=by
 unfold bV;by_cases e:j=k
 ·subst e;rw [eP]; simp
 ·rw [jt e]; simp [e]
theorem wF {m:List (ae×Bool)} (h:Nd m) (k j:ae):bV (pu aM k m) j=(!decide (j=k)&&bV m j):=by
 unfold bV;rw [ES m8 j k h];by_cases e:j=k
 ·subst e;rw [AH]; simp
 ·rw [EK e]; simp [e]
section
variable {urec:aA→ae→Option aA} {f n:Nat} (hR:a8 l) (hD:y0 l (inB b0) V) (hb0:Rm b0.Inputs.length) (hu:KL l V b0 urec f) (hn:n<l.length) (hx:zW l V b0 x) (hp:psi l x≤8) (hf:CF l x.Busy<f+1)
include hR hD hb0 hu hn hx hp hf
end
end
end
section
open Go.RowKit
open Go.Lib hiding intOf
section
variable {l:List aI} {V:Nat→ByteArray} {H:Int→ae→ByteArray} {b0:ai} {x y z:aA}
theorem e8.op {b b':ai} (hB:dt l b) (hB':dt l b') (s:e8 b b') {k:ae} (h:o4 b.Records b.Revision k=false):o4 b'.Records b'.Revision k=false:=by
 cases ho:o4 b'.Records b'.Revision k with
 | false=>rfl
 | true =>
  obtain⟨h1,h2⟩:=(cQ hB').1 ho;rw [(cQ hB).2 ⟨(s.nv k h1).1,h2⟩] at h; cases h
structure Jj (l:List aI) (V:Nat→ByteArray) (H:Int→ae→ByteArray) (b0:ai) (x:aA) (k:ae) (x':aA):Prop where
 ok:zW l V b0 x'
 busy:∀ k,bV x'.Busy k=bV x.Busy k
 psi:psi l x'≤psi l x+1
 done:cA x'.B k=true
 vi:VI l H x'.B (Pb x')
 st:e8 x.B x'.B
 e0:x'.E=0
 rn:∀ q∈x'.Ran,q∈x.Ran∨q=k∨cA x.B q=false
def KH (l:List aI) (V:Nat→ByteArray) (H:Int→ae→ByteArray) (b0:ai) (x:aA) (r:aI) (k:Nat):(List ae)×(List ByteArray)×Int×(List aT)×(List ad)×(List (ae×Bool))×(List ae)×Int×(List aI)×Int×(List aT)×(List ad)×(List (ae×ByteArray))×(List (ae×(List ae)))→Prop
 | (rd,ws,rev,ins,recs,busy,ran,e,rules,srev,sins,srecs,memo,seen)=>PV l V H b0 x (D3 rev ins recs busy ran e rules srev sins srecs memo seen)∧k≤r.Asks.length∧ws=dp l (H b0.Revision) V r k∧rd=hJ l (H b0.Revision) V r k∧∀ q∈rd,uG (ai.mk rev ins recs) (Pb (D3 rev ins recs busy ran e rules srev sins srecs memo seen)) q
def KK (l:List aI) (V:Nat→ByteArray) (H:Int→ae→ByteArray) (b0:ai) (x:aA) (k:ae):Fl (Int×(List aT)×(List ad)×(List (ae×Bool))×(List ae)×Int×(List aI)×Int×(List aT)×(List ad)×(List (ae×ByteArray))×(List (ae×(List ae)))) aA→Prop
 | .go _=>False
 | .out x'=>Jj l V H b0 x k x'
section
variable {urec:aA→ae→Option aA} {f n:Nat} {r:aI} (hR:a8 l) (hD:y0 l (inB b0) V) (hb0:Rm b0.Inputs.length) (hV:V=Vd l (H b0.Revision)) (hu:UV l V H b0 urec f) (hn:l[n]? = some r) (hx:zW l V b0 x) (hp:psi l x≤8) (hf:CF l x.Busy<f)
 (hbl:∀ m,m<l.length→bV x.Busy (rk l m)=true→(aU l)[m]? ≠ some true→m≠n→mp (aU l) n<mp (aU l) m) (ho:o4 x.B.Records x.B.Revision (rk l n)=false)
include hR hD hb0 hV hu hn hx hp hf hbl ho
theorem DO {k:Nat}:∀ s,KH l V H b0 x r k s→Ok (eH urec vv (rk l n) s.1 s.2.1 s.2.2.1 s.2.2.2.1 s.2.2.2.2.1 s.2.2.2.2.2.1 s.2.2.2.2.2.2.1 s.2.2.2.2.2.2.2.1 s.2.2.2.2.2.2.2.2.1 s.2.2.2.2.2.2.2.2.2.1 s.2.2.2.2.2.2.2.2.2.2.1 s.2.2.2.2.2.2.2.2.2.2.2.1 s.2.2.2.2.2.2.2.2.2.2.2.2.1 s.2.2.2.2.2.2.2.2.2.2.2.2.2) fun y=>match y with
   | .go s'=>k<r.Asks.length∧KH l V H b0 x r (k+1) s'
   | .out y=>KK l V H b0 x (rk l n) y:=by
 rintro⟨rd,ws,rev,ins,recs,busy,ran,e,rules,srev,sins,srecs,memo,seen⟩ ⟨h1,hk,h2,h3,h4⟩;dsimp only;have hl:=hR.high;have h3l:=(hR.each n r hn).asks;have hnl:=aW hn;have hE:=h1.post.ok;have hB:dt l (ai.mk rev ins recs):=hE.base;have hru:rules=l:=hE.sol.rules;obtain rfl:e=0:=h1.e0;obtain rfl:rev=b0.Revision:=hE.rev;have hwl:ws.length=k:=by rw [h2]; exact tX hk
 have hrl0:rd.length=k:=by rw [h3]; exact A4 hk
 have hgd:∀ q∈rd,kB l q:=fun q hq=>by
  rw [h3] at hq;rcases sL hR hn hq with⟨c,hc,e⟩|⟨j,_,hj,e⟩
  ·exact .inl ⟨c,hc,e⟩
  ·exact .inr ⟨j,hj,e⟩
 unfold eH;refine aB (fun _=>?_) (fun he=>absurd he (by simp));obtain⟨t,ht,hcase⟩:=qw hR hn (ws:=ws) (by omega);refine aN (by rw [hru]; exact ht) ?_;unfold gz;rcases hcase with⟨e1,rfl⟩|⟨w,hw,rfl⟩
 ·simp only [cond_true];refine aN (hB.find hl _) ?_;obtain⟨m,hm1,hm2⟩:=tw hR hn (ls:=ws) (by omega);obtain⟨q,q1,q2,q3,q4,q5,q6,q7⟩:=AP (b:=ai.mk b0.Revision ins recs) hR hB hnl (v:=bU (rT r ws)) (by rw [hm1]; exact wW hm2) (reads:=rd) (by omega) hgd;have hran:ran.length≤8:=by have h:=h1.post.psi; unfold psi at h hp; have h:ran.length+_≤x.Ran.length+_:=h; omega
  have hput:ki recs q=some (i7 recs q):=yJ hB.recsA (hB.rm hl).1.1 (by have:=q2.reads; unfold Rm; omega);have hkk:k=r.Asks.length:=by omega
  have hval:q.Value=Vd l (H b0.Revision) n:=by rw [q5,h2,hkk,hV]; exact (zm hR hn).symm
  have hrds:q.Reads=hJ l (H b0.Revision) (Vd l (H b0.Revision)) r r.Asks.length:=by rw [q6,h3,hkk,hV]
  have hop:o4 recs b0.Revision q.Key=false:=by rw [q3]; exact h1.st.op hx.base hB ho
  have hvi:VI l H ⟨b0.Revision,ins,i7 recs q⟩ (Pb (D3 b0.Revision ins (i7 recs q) busy (ran++[rk l n]) 0 rules srev sins srecs memo seen)):=h1.vi.put hR hB hn q3 hval hrds q4 q7 (fun z hz=>h4 z (by rw [← q6]; exact hz));have hj2:Ok (dE (rk l n) rd b0.Revision ins recs busy ran 0 rules srev sins srecs memo seen (bU (rT r ws)) false) fun y=>match y with
   | .go s'=>k<r.Asks.length∧KH l V H b0 x r (k+1) s'
   | .out y=>KK l V H b0 x (rk l n) y:=by
   unfold dE;simp only [cond_false];refine aN q1 (aN hput (eK (ey (by simp; omega)) (aq ?_)));obtain⟨v1,v2⟩:=wx hB q4;rw [q3] at v2;refine⟨⟨hE.sol,hB.put q2,rfl,hE.ins,hE.nd⟩,h1.post.busy,?_,v2,hvi,h1.st.trans hx.base hB (e8.put hB q4 hop),rfl,fun z hz=>(cg.1 hz).elim (fun hz=>(h1.rn z hz).imp id .inr) fun hz=>.inr (.inl (dq.1 hz))⟩;have hc:=Aj (l:=l) (m:=busy) v1 (fun _ e=>e) l.length;have hpp:=h1.post.psi;have hpp:ran.length+vB (fun n=>!cA (ai.mk b0.Revision ins recs) (rk l n)||bV busy (rk l n)) l.length≤Go.Proofs.YtdcojaccpnabkaaGreatDoor.psi l x:=hpp;show (ran++[rk l n]).length+vB (fun n=>!cA (ai.mk b0.Revision ins (i7 recs q)) (rk l n)||bV busy (rk l n)) l.length≤Go.Proofs.YtdcojaccpnabkaaGreatDoor.psi l x+1;have hc:vB (fun n=>!cA (ai.mk b0.Revision ins (i7 recs q)) (rk l n)||bV busy (rk l n)) l.length≤vB (fun n=>!cA (ai.mk b0.Revision ins recs) (rk l n)||bV busy (rk l n)) l.length:=hc;rw [cW];simp only [g9,rI];omega
  unfold gy;have hrl:=hB.nrec;have hrl:recs.length≤l.length:=hrl;refine aB (fun _=>?_) (fun _=>hj2);rw [decide_eq_false (by omega)];exact hj2
 ·simp only [cond_false];have hlt:=aW hw;rw [hwl] at hw;obtain⟨_,hg⟩:=jk hR hn hw ws;have hgood:kB l (gf l w ws):=by
   rcases hg with⟨_,c,hc,_,e4⟩|⟨_,j,hj,_,e4⟩
   ·exact .inl ⟨c,hc,e4⟩
   ·exact .inr ⟨j,by have:=qN hnl; omega,e4⟩
  refine aJ (hu _ (gf l w ws) hE (cH h1.post.psi hp) hgood (by rw [u4 h1.post.busy]; exact hf) h1.vi rfl ?_) fun x' ⟨g1,g2⟩=>?_
  ·intro i hi ei m hm hbm hrm;have hbm:bV x.Busy (rk l m)=true:=by rw [← h1.post.busy]; exact hbm
   rcases hg with⟨_,c,_,_,e4⟩|⟨_,j,hj,_,e4⟩
   ·exact absurd (e4.symm.trans ei) oo
   ·obtain rfl:j=i:=pi (by have:=qN hnl; omega) (by omega) (e4.symm.trans ei);obtain⟨r1,r2⟩:=Ab hR hnl hj;by_cases hmn:m=n
    ·subst hmn; exact r2 hrm
    ·have:=hbl m hm hbm hrm hmn;omega
  have hE':=g1.post.ok;have hrev':x'.B.Revision=b0.Revision:=hE'.rev;refine aB (fun he=>?_) (fun he=>absurd he (by rw [g1.e0]; simp));have hV':V=Vd l (H x'.B.Revision):=by rw [hV,hrev']
  have hth:=B9 hE'.base hgood g2;refine eK (ey (by simp; omega)) (aJ (wA hR hD hb0 hV' hE'.sol hE'.base g1.vi hgood (by rcases hth with h | h | h; exact .inl h; exact .inr (.inl h); exact .inr (.inr h.2))) fun y ⟨hy,hya⟩=>eK (ey (by simp; omega)) (aq ⟨by omega,(h1.trans hx g1).trans hx (PV.base hE' g1.e0 hE'.base (e8.refl _) g1.vi hy),by omega,?_,?_,?_⟩))
  ·rw [mE hw,← h2,hya,hrev'];congr 2;rw [hV,sD hR hn hw]
  ·rw [mL hw,← h2,← h3]
  ·intro q hq;show uG x'.B (Pb x') q;rcases cg.1 hq with hq | hq
   ·exact (h4 q hq).mono g1.st fun k hk=>.inl (z6 g1.post.busy hk)
   ·rw [dq.1 hq]; exact hth
theorem GY (hv:VI l H x.B (Pb x)) (he:x.E=0):Ok (eY urec vv x (rk l n)) (Jj l V H b0 x (rk l n)):=by
 unfold eY;refine bK (KH l V H b0 x r) (KK l V H b0 x (rk l n)) r.Asks.length ⟨PV.refl hx hv he,ez _,rfl,rfl,fun q hq=>absurd hq mA⟩ (fun k s hk hI=>(DO hR hD hb0 hV hu hn hx hp hf hbl ho s hI).mono fun y hy=>by cases y <;> exact hy) ?_;rintro (s | x') hr
 ·exact absurd hr (fun h=>h)
 ·exact aq hr
end
section
variable {urec:aA→ae→Option aA} {f n:Nat} (hR:a8 l) (hD:y0 l (inB b0) V) (hb0:Rm b0.Inputs.length) (hV:V=Vd l (H b0.Revision)) (hu:UV l V H b0 urec f) (hn:n<l.length) (hx:zW l V b0 x) (hp:psi l x≤8) (hf:CF l x.Busy<f+1) (hvi:VI l H x.B (Pb x)) (he:x.E=0) (hbk:I9 l x (rk l n))
include hR hD hb0 hV hu hn hx hp hf hvi he hbk
theorem G5 (hv:cA x.B (rk l n)=false) (hbu:bV x.Busy (rk l n)=false):Ok ((dS urec vv (aA.mk x.S x.B (de aM (rk l n) true x.Busy) x.Ran x.E) (rk l n)).bind fun u116=>cond u116.1 ((eY urec vv (aA.mk (ao.mk u116.2.S.Rules (ai.mk u116.2.S.Base.Revision u116.2.S.Base.Inputs u116.2.S.Base.Records) u116.2.S.Memo u116.2.S.Seen) (ai.mk u116.2.B.Revision u116.2.B.Inputs u116.2.B.Records) u116.2.Busy u116.2.Ran u116.2.E) (rk l n)).bind fun u117=>dU (rk l n) u117.B.Revision u117.B.Inputs u117.B.Records u117.Busy u117.Ran u117.E u117.S.Rules u117.S.Base.Revision u117.S.Base.Inputs u117.S.Base.Records u117.S.Memo u117.S.Seen) (dU (rk l n) u116.2.B.Revision u116.2.B.Inputs u116.2.B.Records u116.2.Busy u116.2.Ran u116.2.E u116.2.S.Rules u116.2.S.Base.Revision u116.2.S.Base.Inputs u116.2.S.Base.Records u116.2.S.Memo u116.2.S.Seen))
  fun x'=>PV l V H b0 x x'∧jX x' (rk l n)=true:=by
 have hl:=hR.high;have hi:=bC hn;have hx1:zW l V b0 (aA.mk x.S x.B (de aM (rk l n) true x.Busy) x.Ran x.E):=⟨hx.sol,hx.base,hx.rev,hx.ins,Nd.put m8 hx.nd _ _⟩;have hp1:psi l (aA.mk x.S x.B (de aM (rk l n) true x.Busy) x.Ran x.E)≤psi l x:=by
  refine Nat.add_le_add_left (y7 (fun m hm=>?_) _) _;rw [tf] at hm ⊢;rcases hm with hm | hm
  ·exact .inl hm
  ·rw [p8,tf,decide_eq_true_eq] at hm;rcases hm with hm | hm
   ·left; rw [hm,hv]; rfl
   ·exact .inr hm
 have hf1:CF l (de aM (rk l n) true x.Busy)<f:=by
  have:CF l (de aM (rk l n) true x.Busy)<CF l x.Busy:=by
   refine y8 (i:=n) (fun m hm=>?_) (by rw [p8]; simp) (by rw [hbu]; rfl) _ hn;rw [p8,sv,Bool.or_eq_false_iff] at hm;rw [hm.2]; rfl
  omega
 have hvi1:VI l H x.B (Pb (aA.mk x.S x.B (de aM (rk l n) true x.Busy) x.Ran x.E)):=hvi.weak fun q _ hq _=>⟨by show bV (de aM (rk l n) true x.Busy) q.Key=true; rw [p8,hq.1,Bool.or_true],hq.2⟩;have hbl:∀ m,m<l.length→bV (de aM (rk l n) true x.Busy) (rk l m)=true→(aU l)[m]? ≠ some true→m≠n→mp (aU l) n<mp (aU l) m:=fun m hm hb hr hmn=>by
  rw [p8,tf,decide_eq_true_eq] at hb;rcases hb with hb | hb
  ·exact absurd (pi (by omega) (by omega) hb) hmn
  ·exact hbk n hn rfl m hm hb hr
 have fin:∀ {x2:aA},zW l V b0 x2→e8 x.B x2.B→VI l H x2.B (Pb x2)→x2.E=0→(∀ k,bV x2.Busy k=(decide (k=rk l n)||bV x.Busy k))→psi l x2≤psi l x+1→cA x2.B (rk l n)=true→(∀ q∈x2.Ran,q∈x.Ran∨q=rk l n∨cA x.B q=false) →
   PV l V H b0 x ⟨x2.S,x2.B,pu aM (rk l n) x2.Busy,x2.Ran,x2.E⟩∧jX ⟨x2.S,x2.B,pu aM (rk l n) x2.Busy,x2.Ran,x2.E⟩ (rk l n)=true:=by
  intro x2 q1 q2 qv qe q3 q4 q6 qr;have hbz:∀ k,bV (pu aM (rk l n) x2.Busy) k=bV x.Busy k:=fun k=>by
   rw [wF q1.nd,q3];by_cases e:k=rk l n
   ·rw [e,hbu]; simp
   ·simp [e]
  have hm:∀ m,(!cA x2.B (rk l m)||bV (pu aM (rk l n) x2.Busy) (rk l m))=true→(!cA x2.B (rk l m)||bV x2.Busy (rk l m))=true:=fun m hm=>by
   rw [tf] at hm ⊢;rcases hm with hm | hm
   ·exact .inl hm
   ·rw [wF q1.nd,nX] at hm;exact .inr hm.2
  refine⟨⟨⟨⟨q1.sol,q1.base,q1.rev,q1.ins,Nd.del m8 q1.nd _⟩,q2.ver,hbz,?_⟩,?_,q2,qe,fun q hq=>(qr q hq).imp id fun h=>h.elim (fun e=>e▸hv) id⟩,?_⟩
  ·have hlt:vB (fun m=>!cA x2.B (rk l m)||bV (pu aM (rk l n) x2.Busy) (rk l m)) l.length<vB (fun m=>!cA x2.B (rk l m)||bV x2.Busy (rk l m)) l.length:=y8 (i:=n) hm (by rw [q6,hbz,hbu]; rfl) (by rw [q3]; simp) l.length hn;have q4:x2.Ran.length+vB (fun m=>!cA x2.B (rk l m)||bV x2.Busy (rk l m)) l.length≤Go.Proofs.YtdcojaccpnabkaaGreatDoor.psi l x+1:=q4;show x2.Ran.length+vB (fun m=>!cA x2.B (rk l m)||bV (pu aM (rk l n) x2.Busy) (rk l m)) l.length≤Go.Proofs.YtdcojaccpnabkaaGreatDoor.psi l x;omega
  ·refine qv.weak fun q hq hqp hqv=>⟨?_,hqp.2⟩;show bV (pu aM (rk l n) x2.Busy) q.Key=true;rw [wF q1.nd,hqp.1,Bool.and_true,sv,decide_eq_false_iff_not];intro e;have h1:=uI q1.base hq;rw [e,q6] at h1;have:=of_decide_eq_true h1.symm;omega
  ·unfold jX;show (_||cA x2.B (rk l n))=true;rw [q6,Bool.or_true]
 refine aJ (Dj hR hD hb0 hV hu hn hx1 (cH hp1 hp) hf1 hbl hvi1 he) fun u ⟨g1,g2,g3⟩=>?_;have hbu2:∀ k,bV u.2.Busy k=(decide (k=rk l n)||bV x.Busy k):=fun k=>by rw [g1.post.busy,p8]
 have hps:=g1.post.psi;refine aB (fun hc=>?_) (fun hc=>?_)
 ·refine aJ (GY hR hD hb0 hV hu hi (x:=u.2) g1.post.ok (cH g1.post.psi (cH hp1 hp)) (by rw [u4 g1.post.busy]; exact hf1) (fun m hm hb=>hbl m hm (by rw [← g1.post.busy]; exact hb)) (g3 hc) g1.vi g1.e0) fun x3 h3=>?_;exact aq (fin h3.ok (g1.st.trans hx.base g1.post.ok.base h3.st) h3.vi h3.e0 (fun k=>(h3.busy k).trans (hbu2 k)) (by have:=h3.psi; omega) h3.done fun q hq=>by
   rcases h3.rn q hq with h | h | h
   ·exact (g1.rn q h).imp id .inr
   ·exact .inr (.inl h)
   ·exact .inr (.inr (xv g1.st.ver h)))
 ·exact aq (fin g1.post.ok g1.st g1.vi g1.e0 hbu2 (by omega) (g2 hc) fun q hq=>(g1.rn q hq).imp id .inr)
end
theorem FE (hR:a8 l) (hD:y0 l (inB b0) V) (hb0:Rm b0.Inputs.length) (hV:V=Vd l (H b0.Revision)):∀ f,UV l V H b0 (DX f) f
 | 0=>fun x k _ _ _ h _ _ _=>absurd h (by omega)
 | f+1=>by
  intro x k hx hp hk hf hvi he hbk;have ih:=FE hR hD hb0 hV f;have hl:=hR.high;show Ok (iJ (DX f) vv x k) _;unfold iJ;refine aB (fun h0=>absurd h0 (by rw [he]; simp)) (fun _=>?_);refine aN (iy k) (aB (fun hi=>aq ⟨PV.refl hx hvi he,?_⟩) (fun hi=>?_))
  ·unfold jX;rw [hi]; rfl
  ·obtain⟨n,hn,rfl⟩:∃ n,n<l.length∧k=rk l n:=by
    rcases hk with⟨c,_,rfl⟩ | h
    ·rw [oS] at hi; cases hi
    ·exact h
   refine aN (hx.base.find hl _) ?_;have hj3:cA x.B (rk l n)=false→Ok (dV (DX f) vv x (rk l n) false) fun x'=>PV l V H b0 x x'∧jX x' (rk l n)=true:=fun hv=>by
    unfold dV;simp only [cond_false,aD];refine aB (fun hbu=>?_) (fun hbu=>G5 hR hD hb0 hV ih hn hx hp hf hvi he hbk hv hbu);have hbu:bV x.Busy (rk l n)=true:=hbu;refine aN (fP _) (aB (fun hcy=>?_) (fun hcy=>?_))
    ·have hc:gg (rk l n)=false:=by simpa using hcy
     rw [zd] at hc;have:=hbk n hn rfl n hn hbu (of_decide_eq_false hc);omega
    ·have hc:gg (rk l n)=true:=by simpa using hcy
     refine aq ⟨?_,?_⟩
     ·exact⟨⟨⟨hx.sol,hx.base,hx.rev,hx.ins,hx.nd⟩,mC.refl _,fun _=>rfl,cM _⟩,hvi,e8.refl _,he,fun _ h=>.inl h⟩
     ·unfold jX;show (_||(bV x.Busy (rk l n)&&gg (rk l n))||_)=true;rw [hc,hbu]; simp
   unfold iv;refine aB (fun hf2=>?_) (fun hf2=>hj3 (by unfold cA; rw [hf2]; rfl));cases hver:((aS x.B.Records (rk l n)).1.Verified==x.B.Revision) with
   | true =>
    refine aq ⟨PV.refl hx hvi he,?_⟩;unfold jX cA;rw [hf2,show (aS x.B.Records (rk l n)).1.Verified=x.B.Revision by simpa using hver];simp
   | false=>exact hj3 (by unfold cA; rw [show decide ((aS x.B.Records (rk l n)).1.Verified=x.B.Revision)=false by simpa using hver,Bool.and_false])
end
end
section
open Go.RowKit
open Go.Lib hiding intOf
theorem fG {ρ:Type} {B:Int→Option (Fl Int ρ)} {r:ρ} (n:Nat) (hgo:∀ k,k<n→B (k:Int)=some (.go ((k+1:Nat):Int))) (hn:B (n:Int)=some (.out r)):loop B 0=some r :=
 wr (B:=B) (fun k=>(k:Int)) n rfl hgo hn
section
variable {l:List aI} {b:ai}
theorem DJ (hl:l.length≤8) {rev:Int} (hrev:rev≤1000000) {r:ad} (h:mB l rev r):nM r=some true:=by
 obtain⟨n,hn,hk⟩:=h.key;have h3:=h.reads;have h4:=h.value;have h5:=h.low;have h6:=h.mid;have h7:=h.high;have h8:=h.cost;unfold nM;refine fo (fG (r:=Fl.go ()) r.Reads.length (fun k hk=>?_) ?_) ?_
 ·unfold jD;rw [dlt hk,cond_true,bE hk,aD,(h.good _ (iL hk)).valid hl,aD,cR (by omega)];rfl
 ·unfold jD;rw [bS]; rfl
 ·show jC r=some true;unfold jC;rw [hk,A7 (by omega),aD,cond_true,pj,aD,decide_eq_true (by omega),decide_eq_true (by omega),decide_eq_true (by omega),decide_eq_true (by omega),decide_eq_true (by omega),decide_eq_true (by omega),decide_eq_true (by omega)];simp only [nY,cond_true];rw [fP,aD];unfold cb;cases hd:r.Dirty with
  | false=>rfl
  | true =>
   have:=h.dirty hd;rw [hk] at this;rw [this]; rfl
theorem FH (h:dt l b) (hl:l.length≤8):iC b.Records=some true:=by
 have hn:=h.nrec;unfold iC;refine fo (fG (r:=Fl.go ()) b.Records.length (fun k hk=>?_) ?_) ?_
 ·unfold ff;rw [dlt hk,cond_true,bE hk,aD,DJ hl h.rev.2 (h.recs _ (iL hk)),aD];have hj:df (k:Int) false=some (.go ((k+1:Nat):Int)):=by unfold df; rw [cR (by omega)]; rfl
  simp only [im,cond_false];rcases vR k with h0 | h0
  ·subst h0;exact hj
  ·rw [decide_eq_true (by omega),cond_true,show IntKind.i64.wrap ((k:Int)-1)=((k-1:Nat):Int) by rw [oA (by omega) (by omega)]; omega,bE (show k-1<b.Records.length by omega),aD,mW,aD];have:=gw.1 h.recsA (k-1) k (by omega) hk (by omega);rw [decide_eq_false (by omega)];exact hj
 ·unfold ff;rw [bS]; rfl
 ·show some (decide ((b.Records.length:Int)≤4000))=some true;rw [decide_eq_true (by omega)]
theorem ww (h:dt l b) (hl:l.length≤8):ic b=some true:=by
 have hn:=h.nrec;have hi:=h.nin;have hrev:=h.rev;unfold ic;refine fo (fG (r:=Fl.go ()) b.Inputs.length (fun k hk=>?_) ?_) ?_
 ·have hx:=h.ins _ (iL hk);obtain⟨c,hc,hkey⟩:=hx.key;have h1:=hx.value;have h2:=hx.low;have h3:=hx.high;unfold jJ;rw [dlt hk,cond_true,bE hk,aD,hkey,tq (by omega),aD];have hj:cx (k:Int) false=some (.go ((k+1:Nat):Int)):=by unfold cx; rw [cR (by omega)]; rfl
  simp only [im,cond_false];rw [mF,aD];simp only [im,cond_false];rw [decide_eq_false (show ¬ (1073741824:Int)<(b.Inputs[k].Value.size:Int) by omega),decide_eq_false (show ¬ (b.Inputs[k].Changed:Int)<0 by omega),decide_eq_false (show ¬ (b.Revision:Int)<b.Inputs[k].Changed by omega)];rcases vR k with h0 | h0
  ·subst h0;exact hj
  ·rw [decide_eq_true (by omega),cond_true,show IntKind.i64.wrap ((k:Int)-1)=((k-1:Nat):Int) by rw [oA (by omega) (by omega)]; omega,bE (show k-1<b.Inputs.length by omega),aD,mW,aD];have:=gw.1 h.insA (k-1) k (by omega) hk (by omega);rw [hkey] at this;rw [decide_eq_false (by omega)];exact hj
 ·unfold jJ;rw [bS]; rfl
 ·show jH b=some true;unfold jH;refine fo (fG (r:=Fl.go ()) b.Records.length (fun k hk=>?_) ?_) ?_
  ·have:=(h.recs _ (iL hk)).high;unfold jI;rw [dlt hk,cond_true,bE hk,aD,decide_eq_false (by omega),cR (by omega)]; rfl
  ·unfold jI;rw [bS]; rfl
  ·show jG b=some true;unfold jG;rw [decide_eq_true hrev.1,decide_eq_true (by omega),decide_eq_true (by omega),FH h hl]; rfl
theorem A6 (hl:l.length≤8) {k:ae} (hk:kB l k):jK l k=some true:=by
 unfold jK;rw [hk.valid hl,aD,cond_true];rcases hk with⟨c,hc,rfl⟩|⟨n,hn,rfl⟩
 ·rfl
 ·have h1:∀ q,eo ((q:ae).Kind==q.Kind&&q.Text.toList==q.Text.toList)=some true:=fun q=>by unfold eo; simp
  rcases ny (l:=l) (n:=n) with⟨h,_⟩|⟨h,_⟩
  ·rw [show ((rk l n).Kind != 31)=false by rw [h]; rfl,cond_false,ph,aD,vh (by omega),xk hn (by omega),aD];exact h1 _
  ·rw [show ((rk l n).Kind != 31)=true by rw [h]; rfl,cond_true,show ((rk l n).Kind != 32)=false by rw [h]; rfl,cond_false,ph,aD,vh (by omega),xk hn (by omega),aD];exact h1 _
theorem y4 (hR:a8 l) (h:dt l b) {goals:List ae} (hg:∀ k∈goals,kB l k) (hn:goals.length≤32):jP l b goals=some 0:=by
 have hl:=hR.high;unfold jP;rw [yH hR.bnd,w8 hR,aD];simp only [im,cond_false];rw [ww h hl,aD,decide_eq_false (by omega)];simp only [im,cond_false];refine fo (fG (r:=Fl.go ()) goals.length (fun k hk=>?_) ?_) rfl
 ·unfold jQ;rw [dlt hk,cond_true,bE hk,aD,A6 hl (hg _ (iL hk)),aD,cR (by omega)]; rfl
 ·unfold jQ;rw [bS]; rfl
structure tn (l:List aI) (b b':ai):Prop where
 ok:dt l b'
 rev:b'.Revision=b.Revision
 ins:b'.Inputs=b.Inputs
theorem GK (hR:a8 l) {d:List Int} {i:Int} (hd:bQ d i):Ok (qk ⟨d,i⟩ l) fun y=>kB l y.1∧bQ y.2.L y.2.At:=by
 have hl:=hR.high;have h2l:=hR.low;unfold qk;refine aJ (cU hd (by omega) (by omega)) fun y ⟨_,_,d1⟩=>aB (fun _=>?_) (fun _=>?_)
 ·refine aJ (cU d1 (by omega) (by omega)) fun z ⟨z1,z2,d2⟩=>?_;obtain⟨c,hc⟩:∃ c:Nat,z.1=c:=⟨z.1.toNat,by omega⟩;rw [hc];exact aN (tD (by omega)) (aq ⟨.inl ⟨c,by omega,rfl⟩,d2⟩)
 ·refine aJ (cU d1 (by omega) (by omega)) fun z ⟨z1,z2,d2⟩=>aB (fun _=>?_) (fun _=>?_)
  ·refine aJ (cU d2 (by omega) (by omega)) fun w ⟨w1,w2,d3⟩=>?_;have e1:IntKind.i64.wrap ((l.length:Int)-1)=(l.length:Int)-1:=oA (by omega) (by omega);rw [e1,oA (by omega) (by omega)];obtain⟨c,hc⟩:∃ c:Nat,(l.length:Int)-1-w.1=c:=⟨((l.length:Int)-1-w.1).toNat,by omega⟩;rw [hc];exact aN (xk (by omega) (by omega)) (aq ⟨.inr ⟨c,by omega,rfl⟩,d3⟩)
  ·refine aJ (cU d2 (by omega) (by omega)) fun w ⟨w1,w2,d3⟩=>?_;obtain⟨c,hc⟩:∃ c:Nat,w.1=c:=⟨w.1.toNat,by omega⟩;rw [hc];exact aN (xk (by omega) (by omega)) (aq ⟨.inr ⟨c,by omega,rfl⟩,d3⟩)
theorem wS (hR:a8 l) {d:List Int} {i:Int} (hd:bQ d i) {most:Int} (h1:1≤most) (h2:most≤30):Ok (lm ⟨d,i⟩ l most) fun y=>(∀ k∈y.1,kB l k)∧y.1.length≤32∧bQ y.2.L y.2.At:=by
 unfold lm;refine aJ (cU hd h1 (by omega)) fun y ⟨y1,y2,d1⟩=>?_;rw [oA (by omega) (by omega)];refine bK (fun (k:Nat) (s:(List ae)×Int×(List Int)×Int)=>(∀ q∈s.1,kB l q)∧s.1.length=k∧s.2.1=y.1+1-k∧bQ s.2.2.1 s.2.2.2) (fun r=>(∀ q∈r.1,kB l q)∧r.1.length≤32∧bQ r.2.1 r.2.2) 31 ⟨fun q hq=>absurd hq mA,rfl,by simp,d1⟩ ?_ (fun r hr=>aq hr);rintro k ⟨gs,c,d,i⟩ hk ⟨g1,g2,g3,g4⟩;dsimp only at g1 g2 g3 g4 ⊢;unfold nb;refine aB (fun hc=>?_) (fun _=>aq ⟨g1,by show gs.length≤32; omega,g4⟩);have hc:=of_decide_eq_true hc;refine aJ (GK hR g4) fun z ⟨z1,z2⟩=>eK (ey (by simp; omega)) (aq ⟨by omega,?_,by rw [cW,g2]; rfl,?_,z2⟩)
 ·intro q hq;rcases cg.1 hq with hq | hq
  ·exact g1 q hq
  ·rw [dq.1 hq]; exact z1
 ·show IntKind.i64.wrap (c-1)=_;rw [oA (by omega) (by omega)]; omega
end
end
section
open Go.RowKit
open Go.Lib hiding intOf
abbrev I6 (_:ae):Prop:=False
section
variable {l:List aI} {V:Nat→ByteArray} {H:Int→ae→ByteArray} {b:ai}
theorem VI.inB {P:ae→Prop} (h:VI l H b P):inB b=H b.Revision:=funext h.now
structure FU (l:List aI) (H:Int→ae→ByteArray) (b:ai) (goals:List ae) (y:ai×(List ae)×Int):Prop where
 lv:tn l b y.1
 e0:y.2.2=0
 vi:VI l H y.1 I6
 there:∀ k∈goals,(∃ c,k=cJ c)∨cA y.1 k=true
 ran:∀ k∈y.2.1,cA b k=false
 ver:mC b y.1
def Mw (l:List aI) (H:Int→ae→ByteArray) (b0:ai) (goals:List ae) (k:Nat):Int×Int×(List aT)×(List ad)×(List (ae×Bool))×(List ae)×Int×(List aI)×Int×(List aT)×(List ad)×(List (ae×ByteArray))×(List (ae×(List ae)))→Prop
 | (i,rev,ins,recs,busy,ran,e,rules,srev,sins,srecs,memo,seen)=>i=(k:Int)∧PV l (Vd l (inB b0)) H b0 ⟨⟨l,b0,[],[]⟩,b0,[],[],0⟩ (D3 rev ins recs busy ran e rules srev sins srecs memo seen)∧psi l (D3 rev ins recs busy ran e rules srev sins srecs memo seen)≤8∧∀ j q,j<k→goals[j]? = some q→(∃ c,q=cJ c)∨cA (ai.mk rev ins recs) q=true
def Mz (l:List aI) (H:Int→ae→ByteArray) (b0:ai) (goals:List ae):Int×(List aT)×(List ad)×(List (ae×Bool))×(List ae)×Int×(List aI)×Int×(List aT)×(List ad)×(List (ae×ByteArray))×(List (ae×(List ae)))→Prop
 | (rev,ins,recs,busy,ran,e,rules,srev,sins,srecs,memo,seen)=>PV l (Vd l (inB b0)) H b0 ⟨⟨l,b0,[],[]⟩,b0,[],[],0⟩ (D3 rev ins recs busy ran e rules srev sins srecs memo seen)∧psi l (D3 rev ins recs busy ran e rules srev sins srecs memo seen)≤8∧∀ q∈goals,(∃ c,q=cJ c)∨cA (ai.mk rev ins recs) q=true
theorem vJ (hR:a8 l) (h:dt l b) (hv:VI l H b I6) {goals:List ae} (hg:∀ k∈goals,kB l k) (hn:goals.length≤32):Ok (iY uu l b goals) (FU l H b goals):=by
 have hl:=hR.high;have hb0:=(h.rm hl).2.1;have hD:=rQ (inB b) hR;have hcp:=tu (h.rm hl).1 hb0;have hV:Vd l (inB b)=Vd l (H b.Revision):=by rw [hv.inB]
 have hE0:zW l (Vd l (inB b)) b ⟨⟨l,b,[],[]⟩,b,[],[],0⟩:=⟨⟨rfl,rfl,fun n _ v e=>(by cases e),fun c=>rfl⟩,h,rfl,rfl,vr⟩;unfold iY;rw [hcp,aD,y4 hR h hg hn,aD];simp only [show ((0:Int) != 0)=false from rfl,cond_false];refine aN (v:=ao.mk l b [] []) rfl ?_;rw [hcp,aD];unfold kk;refine bK (Mw l H b goals) (Mz l H b goals) goals.length ?_ ?_ ?_
 ·refine⟨rfl,PV.refl hE0 (hv.weak fun _ _ hp _=>hp.elim) rfl,?_,fun j q hj=>absurd hj (by omega)⟩;have:=sE (fun n=>!cA b (rk l n)||bV [] (rk l n)) l.length;show 0+vB (fun n=>!cA b (rk l n)||bV [] (rk l n)) l.length≤8;omega
 ·rintro k ⟨i,rev,ins,recs,busy,ran,e,rules,srev,sins,srecs,memo,seen⟩ hk ⟨rfl,h1,h2,h3⟩;dsimp only;unfold kl;have hbz:∀ q,bV busy q=false:=fun q=>h1.post.busy q;refine aB (fun hlt=>?_) (fun hlt=>aq ⟨h1,h2,fun q hq=>?_⟩)
  ·have hlt:k<goals.length:=by have:=of_decide_eq_true hlt; omega
   have hnb:=sE (fun n=>!bV busy (rk l n)) l.length;refine aN (bE hlt) (aJ (FE hR hD hb0 hV 40 _ _ h1.post.ok h2 (hg _ (iL hlt)) (show vB (fun n=>!bV busy (rk l n)) l.length<40 by omega) h1.vi h1.e0 (fun n _ _ m _ hb=>by
    have hb:bV busy (rk l m)=true:=hb;rw [hbz] at hb; cases hb)) fun x' ⟨g1,g2⟩=>?_)
   refine aq ⟨hlt,cR (by omega),h1.trans hE0 g1,cH g1.post.psi h2,fun j q hj hq=>?_⟩;show _∨cA x'.B q=true;rcases ik j k with hj1 | hj1
   ·exact (h3 j q hj1 hq).imp id fun e=>g1.st.ver _ e
   ·obtain rfl:j=k:=by omega
    have e:goals[j]=q:=by rw [bC hlt] at hq; exact bO hq
    rcases B9 g1.post.ok.base (hg _ (iL hlt)) g2 with h | h | h
    ·exact .inl (e▸h)
    ·exact .inr (e▸h)
    ·have:=h.1;rw [g1.post.busy] at this;have this:bV busy goals[j]=true:=this;rw [hbz] at this; cases this
  ·obtain⟨j,hj⟩:=gZ.1 hq;have hlt:¬ (k:Int)<(goals.length:Int):=of_decide_eq_false hlt;exact h3 j q (by have:=aW hj; omega) hj
 ·rintro⟨rev,ins,recs,busy,ran,e,rules,srev,sins,srecs,memo,seen⟩ ⟨h1,h2,h3⟩;dsimp only;unfold gS;have he:e=0:=h1.e0;refine aB (fun h0=>absurd h0 (by rw [he]; simp)) (fun _=>?_);have hr:ran.length≤8:=by
   have h2:ran.length+_≤8:=h2;omega
  obtain⟨m,hm,hm2⟩:=td (l:=ran) (by unfold Rm; omega);refine aN hm (aq ⟨⟨h1.post.ok.base,h1.post.ok.rev,h1.post.ok.ins⟩,rfl,?_,h3,fun q hq=>?_,h1.st.ver⟩)
  ·refine h1.vi.weak fun q _ hq _=>?_;have:=hq.1;rw [h1.post.busy] at this;cases this
  ·rcases h1.rn q ((hm2.mem q).1 hq) with hh | hh
   ·cases hh
   ·exact hh
end
end
section
open Go.RowKit
open Go.Lib hiding intOf
section
variable {l:List aI} {V:Nat→ByteArray} {b0 b:ai}
theorem y9 (hR:a8 l):iK l=some l:=by
 have h8:=hR.high;unfold iK iw;refine fo (d7 (xs:=l) (fun k=>(l.take k,(k:Int))) rfl (r:=l) (fun k x hx=>?_) ?_) rfl
 ·have hlt:=aW hx;have:=(hR.each k x hx).asks;unfold fk;dsimp only;rw [dlt hlt,cond_true,bf,hx,aD,ey (by simp; omega),ey (by rw [il]; simp; omega),cR (by omega),bM hx];rfl
 ·unfold fk;dsimp only;rw [bS,lJ]; rfl
structure BA (l:List aI) (f:aX):Prop where
 key:∃ n,n<l.length∧f.Key=rk l n
 at0:0≤f.At
 at1:f.At≤1000000
 reads:f.Reads.length≤3
 same:f.Answers.length=f.Reads.length
 good:∀ k∈f.Reads,kB l k
theorem s3 {fs:List aX} (h:∀ f∈fs,BA l f) (hl:fs.length≤1000):dj fs=some fs:=by
 unfold dj cr;refine fo (d7 (xs:=fs) (fun k=>(fs.take k,(k:Int))) rfl (r:=fs) (fun k x hx=>?_) ?_) rfl
 ·have hlt:=aW hx;have hf:=h x (aH hx);have h1:=hf.reads;have h2:=hf.same;unfold bF;dsimp only;rw [dlt hlt,cond_true,bf,hx,aD,ey (by simp; omega),ey (by simp; omega),ey (by rw [il]; simp; omega),cR (by omega),bM hx];rfl
 ·unfold bF;dsimp only;rw [bS,lJ]; rfl
theorem Ka {fs:List aX} (hl:fs.length≤1000) (k:ae):Ok (me fs k) fun _=>True:=by
 unfold me;refine bK (fun (i:Nat) (s:Int)=>s=i∧i≤fs.length) (fun _=>True) fs.length ⟨rfl,ez _⟩ ?_ ?_
 ·rintro i _ hi ⟨rfl,_⟩;unfold ig;refine aB (fun hlt=>?_) (fun _=>aq trivial);have hlt:i<fs.length:=by have:=of_decide_eq_true hlt; omega
  refine aN (bE hlt) (aB (fun _=>aq trivial) (fun _=>aq ⟨hlt,cR (by omega),hlt⟩))
 ·rintro (_ | _) _ <;> exact aq trivial
theorem DD (hl:l.length≤8) (hb:dt l b) {fs:List aX} (hf:fs.length≤1000) {k:ae} (hk:kB l k):Ok (f7 b fs k) fun y=>y=true→∃ n,n<l.length∧k=rk l n:=by
 unfold f7;refine aN (iy k) (aB (fun _=>aq fun e=>by cases e) (fun hi=>?_));have hn:∃ n,n<l.length∧k=rk l n:=by
  rcases hk with⟨c,_,rfl⟩ | h
  ·rw [oS] at hi; cases hi
  ·exact h
 refine aJ (Ka hf k) fun _ _=>aB (fun _=>aq fun _=>hn) (fun _=>aN (hb.find hl k) (aB (fun _=>aq fun _=>hn) (fun _=>aq fun _=>hn)))
structure yj (l:List aI) (V:Nat→ByteArray) (b0 b:ai) (N:Nat) (y:ai×(List aX)×(List ae)×Bool×Int×ao):Prop where
 lv:tn l b y.1
 fr:∀ f∈y.2.1,BA l f
 len:y.2.1.length≤N+1
 wk:y.2.2.1.length≤1
 sol:py l V b0 y.2.2.2.2.2
theorem BF {fs:List aX} (h:∀ f∈fs,BA l f) {n:Nat} (hn:n<l.length):∀ g∈fs++[aX.mk (rk l n) false 0 [] []],BA l g:=fun g hg=>by
 rcases cg.1 hg with hg | hg
 ·exact h g hg
 ·rw [dq.1 hg];exact⟨⟨n,hn,rfl⟩,ru _,by show (0:Int)≤1000000; omega,ez _,rfl,fun k hk=>absurd hk mA⟩
end
end
section
open Go.RowKit
open Go.Lib hiding intOf
def Ps (fs:List aX) (k:ae):Prop:=gg k=true∧∃ f∈fs,f.Key=k
section
variable {l:List aI} {V:Nat→ByteArray} {H:Int→ae→ByteArray} {b b' b0:ai} {P P':ae→Prop}
theorem BY {fs:List aX} (hl:fs.length≤1000) (k:ae):Ok (me fs k) fun y=>y=true↔∃ f∈fs,f.Key=k:=by
 have e:loop (fun s:Int=>ig fs k s) 0=some (if fs.any (fun f=>db f.Key k) then Fl.out true else Fl.go ()) :=
  w6 (xs:=fs) (fun f=>db f.Key k) (fun n=>(n:Int)) rfl
   (fun i f hf hp=>by
    have:=aW hf;unfold ig;rw [fC hf,cond_true,bf,hf,aD];unfold db at hp;rw [hp,cond_false,cR (by omega)])
   (fun i f hf hp=>by
    unfold ig;rw [fC hf,cond_true,bf,hf,aD];unfold db at hp;rw [hp,cond_true])
   (by unfold ig; rw [bS]; rfl)
 unfold me;rw [e,aD];cases ha:fs.any (fun f=>db f.Key k) with
 | true =>
  refine aq ⟨fun _=>?_,fun _=>rfl⟩;obtain⟨f,hf,e⟩:=rx.1 ha;exact⟨f,hf,dK.1 e⟩
 | false =>
  refine aq (show (false=true)↔_ from ⟨fun h=>(by cases h),fun ⟨f,hf,e⟩=>?_⟩);have:=C2.1 ha f hf;exact absurd (dK.2 e) this
theorem BU (hl:l.length≤8) (hb:dt l b) {fs:List aX} (hf:fs.length≤1000) {k:ae} (hk:kB l k):Ok (f7 b fs k) fun y=>(y=true→∃ n,n<l.length∧k=rk l n)∧(y=false→(∃ c,k=cJ c)∨(∃ f∈fs,f.Key=k)∨cA b k=true):=by
 unfold f7;refine aN (iy k) (aB (fun hi=>aq ⟨(fun e=>by cases e),fun _=>?_⟩) (fun hi=>?_))
 ·rcases hk with⟨c,_,rfl⟩|⟨n,_,rfl⟩
  ·exact .inl ⟨c,rfl⟩
  ·rw [wU] at hi; cases hi
 have hn:∃ n,n<l.length∧k=rk l n:=by
  rcases hk with⟨c,_,rfl⟩ | h
  ·rw [oS] at hi; cases hi
  ·exact h
 refine aJ (BY hf k) fun u hu=>aB (fun h1=>aq ⟨(fun e=>by cases e),fun _=>.inr (.inl (hu.1 h1))⟩) (fun _=>aN (hb.find hl k) (aB (fun _=>aq ⟨fun _=>hn,fun e=>by cases e⟩) (fun hf=>aq ⟨fun _=>hn,fun e=>.inr (.inr ?_)⟩)));have hf:(aS b.Records k).2=true:=by simpa using hf
 have e:((aS b.Records k).1.Verified != b.Revision)=false:=e;unfold cA;rw [hf,n9,decide_eq_true_eq];simpa using e
theorem AO (hl:l.length≤8) (hb:dt l b) {fs:List aX} (hf:fs.length≤1000) {k:ae} (hk:kB l k):Ok (mV b fs [] k) fun y=>(y=1→∃ n,n<l.length∧k=rk l n)∧(y≠1→y≠2→y≠3→uG b (Ps fs) k):=by
 have hj:∀ g,(g=false→(∃ f∈fs,f.Key=k)→gg k=true)→Ok (i6 b fs [] k g) fun y=>(y=1→∃ n,n<l.length∧k=rk l n)∧(y≠1→y≠2→y≠3→uG b (Ps fs) k):=fun g hg=>by
  unfold i6;refine aB (fun _=>aq ⟨(fun e=>by cases e),fun _ _ h=>absurd rfl h⟩) (fun hgf=>aJ (BU hl hb hf hk) fun y ⟨y1,y2⟩=>aB (fun hn=>aq ⟨(fun e=>by cases e),fun _ _ _=>?_⟩) (fun hn=>?_))
  ·rcases y2 (by simpa using hn) with h | h | h
   ·exact .inl h
   ·exact .inr (.inr ⟨hg hgf h,h⟩)
   ·exact .inr (.inl h)
  have hn:=y1 (by simpa using hn);refine aJ (BY (fs:=[]) (by simp) k) fun u hu=>aB (fun _=>aq ⟨fun _=>hn,fun h=>absurd rfl h⟩) (fun hu2=>?_);have hu2:u=true:=by simpa using hu2
  obtain⟨f,hf,_⟩:=hu.1 hu2;cases hf
 unfold mV;refine aN (fP _) (aB (fun hc=>aJ (BY hf k) fun u hu=>hj u fun e h=>?_) (fun hc=>hj false fun _ _=>by simpa using hc));rw [hu.2 h] at e; cases e
structure FV (l:List aI) (H:Int→ae→ByteArray) (b:ai) (P:ae→Prop) (f:aX):Prop where
 run:f.Running=true→o4 b.Records b.Revision f.Key=false∧∃ n r,l[n]? = some r∧f.Key=rk l n∧f.Reads.length≤r.Asks.length∧f.Answers=dp l (H b.Revision) (Vd l (H b.Revision)) r f.Reads.length∧f.Reads=hJ l (H b.Revision) (Vd l (H b.Revision)) r f.Reads.length∧∀ q∈f.Reads,uG b P q
 idle:f.Running=false→f.Reads=[]∧f.Answers=[]∧(Nv b f.Key→oa l H b P f.Key f.At.toNat)
theorem FV.step (hl:l.length≤8) (hB:dt l b) (hB':dt l b') (s:e8 b b') (hP:∀ k,P k→P' k∨cA b' k=true) {f:aX} (h:FV l H b P f):FV l H b' P' f:=by
 refine⟨fun hr=>?_,fun hr=>?_⟩
 ·obtain⟨h1,n,r,h2,h3,h4,h5,h6,h7⟩:=h.run hr;exact⟨s.op hB hB' h1,n,r,h2,h3,h4,by rw [s.rev]; exact h5,by rw [s.rev]; exact h6,fun q hq=>(h7 q hq).mono s hP⟩
 ·obtain⟨h1,h2,h3⟩:=h.idle hr;exact⟨h1,h2,fun hk=>oa.step hl hB hB' s hP h3 hk⟩
theorem FV.new {n:Nat}:FV l H b P (aX.mk (rk l n) false 0 [] []):=⟨(fun h=>by cases h),fun _=>⟨rfl,rfl,fun _=>oa.zero _⟩⟩
structure SV (l:List aI) (H:Int→ae→ByteArray) (b:ai) (fs:List aX):Prop where
 vi:VI l H b (Ps fs)
 fr:∀ f∈fs,FV l H b (Ps fs) f
theorem DV {fs:List aX} {i:Nat} {f:aX} (hi:i+1=fs.length) (hf:fs[i]? = some f):fs=fs.take i++[f]:=by
 have h1:fs.drop i=[f]:=by
  rw [Ce (by omega),List.drop_of_length_le (by omega)];rw [bC (by omega)] at hf;rw [bO hf]
 conv=>lhs; rw [← Bt i fs,h1]
theorem SV.pop (hl:l.length≤8) (hB:dt l b) (hB':dt l b') (s:e8 b b') {rest:List aX} {f:aX} (h:SV l H b (rest++[f])) (hvi:VI l H b' (Ps (rest++[f]))) (hv:cA b' f.Key=true):SV l H b' rest:=by
 have hP:∀ k,Ps (rest++[f]) k→Ps rest k∨cA b' k=true:=fun k ⟨h1,g,hg,e⟩=>by
  rcases cg.1 hg with hg | hg
  ·exact .inl ⟨h1,g,hg,e⟩
  ·rw [dq.1 hg] at e;exact .inr (e▸hv)
 refine⟨hvi.weak fun x hx hp hlt=>?_,fun g hg=>(h.fr g (gv _ hg)).step hl hB hB' s hP⟩;rcases hP _ hp with h1 | h1
 ·exact h1
 ·rw [uI hB' hx] at h1;have:=of_decide_eq_true h1;omega
theorem SV.push (hl:l.length≤8) (hB:dt l b) {fs:List aX} (h:SV l H b fs) (n:Nat):SV l H b (fs++[aX.mk (rk l n) false 0 [] []]):=by
 have hP:∀ k,Ps fs k→Ps (fs++[aX.mk (rk l n) false 0 [] []]) k:=fun k ⟨h1,g,hg,e⟩=>⟨h1,g,gv _ hg,e⟩;refine⟨h.vi.weak fun x _ hp _=>hP _ hp,fun g hg=>?_⟩;rcases cg.1 hg with hg | hg
 ·exact (h.fr g hg).step hl hB hB (e8.refl _) fun k hk=>.inl (hP k hk)
 ·rw [dq.1 hg]; exact FV.new
theorem SV.last (hl:l.length≤8) (hB:dt l b) (hB':dt l b') (s:e8 b b') {rest:List aX} {f f':aX} (h:SV l H b (rest++[f])) (hk:f'.Key=f.Key) (hvi:VI l H b' (Ps (rest++[f]))) (hf:FV l H b' (Ps (rest++[f])) f'):SV l H b' (rest++[f']):=by
 have hP:∀ k,Ps (rest++[f]) k→Ps (rest++[f']) k:=fun k ⟨h1,g,hg,e⟩=>by
  rcases cg.1 hg with hg | hg
  ·exact⟨h1,g,gv _ hg,e⟩
  ·rw [dq.1 hg] at e;exact⟨h1,f',ol _ (dq.2 rfl),hk.trans e⟩
 refine⟨hvi.weak fun x _ hp _=>hP _ hp,fun g hg=>?_⟩;rcases cg.1 hg with hg | hg
 ·exact (h.fr g (gv _ hg)).step hl hB hB' s fun k hk=>.inl (hP k hk)
 ·rw [dq.1 hg];exact hf.step hl hB' hB' (e8.refl _) fun k hk=>.inl (hP k hk)
theorem Fr {rest:List aX} {f f':aX} {i:Nat} (hi:i=rest.length):(rest++[f]).set i f'=rest++[f']:=by
 subst hi;simp
end
end
section
open Go.RowKit
open Go.Lib hiding intOf
section
variable {l:List aI} {V:Nat→ByteArray} {H:Int→ae→ByteArray} {b0 b:ai}
theorem BQ (hR:a8 l) (hD:y0 l (inB b0) V) (hb0:Rm b0.Inputs.length) (hV:V=Vd l (H b.Revision)) {s:ao} (hs:py l V b0 s) (hb:dt l b) {rest:List aX} {f:aX} (hf:∀ g∈rest++[f],BA l g) (hlen:(rest++[f]).length≤900) (hsv:SV l H b (rest++[f])) :
  Ok (km vv s b (rest++[f]) []) fun y=>yj l V b0 b (rest++[f]).length y∧SV l H y.1 y.2.1:=by
 have hl:=hR.high;have hS:Db b.Records:=(hb.rm hl).2.2;obtain⟨fs,hfs⟩:∃ fs,fs=rest++[f]:=⟨_,rfl⟩;have hfl:fs.length=rest.length+1:=by rw [hfs,cW]; rfl
 have hw:IntKind.i64.wrap ((fs.length:Int)-1)=(rest.length:Int):=by rw [oA (by omega) (by rw [← hfs] at hlen; omega)]; omega
 have hlast:fs[rest.length]? = some f:=by rw [hfs]; simp
 have htk:fs.take rest.length=rest:=by rw [hfs]; simp
 have pr:∀ f',fs.set rest.length f'=rest++[f']:=fun f'=>by rw [hfs]; exact Fr rfl
 have hmem:f∈fs:=aH hlast;rw [← hfs] at hf hlen hsv ⊢;have hsv':SV l H b (rest++[f]):=hfs▸hsv;have hF:=hf f hmem;have hFV:=hsv.fr f hmem;obtain⟨n,hn,hkey⟩:=hF.key;have hi:=bC hn;generalize l[n]=r at hi;have lv0:tn l b b:=⟨hb,rfl,rfl⟩;have htake:∀ g∈rest,BA l g:=fun g hg=>hf g (by rw [hfs]; exact gv _ hg);have hrl:rest.length≤fs.length+1:=by omega
 have hru:=hs.rules;have hr3:=hF.reads;have J1:=hF.same;have setOk:∀ f',BA l f'→(∀ g∈rest++[f'],BA l g)∧(rest++[f']).length≤fs.length+1:=fun f' hf'=>⟨fun g hg=>by
  rcases cg.1 hg with hg | hg
  ·exact htake g hg
  ·rw [dq.1 hg]; exact hf',by rw [cW]; simp; omega⟩
 unfold km;refine aN (tu (hb.rm hl).1 (hb.rm hl).2.1) (aN (s3 hf (by omega)) ?_);rw [hw];refine aN (by rw [bf]; exact hlast) (aN (qt (by omega)) (aN (hb.find hl _) ?_));rw [htk];unfold ld;refine aB (fun hrun=>?_) (fun hrun=>?_)
 ·obtain⟨hop,n',r',q1,q2,q3,q4,q5,q6⟩:=hFV.run hrun;obtain rfl:n=n':=pi (by omega) (by have:=aW q1; omega) (hkey.symm.trans q2);obtain rfl:=bO (hi.symm.trans q1);have h3:=(hR.each n r hi).asks;obtain⟨t,ht,hcase⟩:=qw hR hi (ws:=f.Answers) (by omega);refine aN (by rw [hru,hkey]; exact ht) ?_;unfold lc;rcases hcase with⟨e1,rfl⟩|⟨x,hx,rfl⟩
  ·simp only [cond_true];obtain⟨m,hm1,hm2⟩:=tw hR hi (ls:=f.Answers) (by omega);obtain⟨q,p1,p2,p3,p4,p5,p6,p7⟩:=AP hR hb hn (v:=bU (rT r f.Answers)) (by rw [hm1]; exact wW hm2) hr3 hF.good;have hput:ki b.Records q=some (i7 b.Records q):=yJ hb.recsA (hb.rm hl).1.1 (by have:=p2.reads; unfold Rm; omega);have hfull:f.Reads.length=r.Asks.length:=by omega
   have hval:q.Value=Vd l (H b.Revision) n:=by rw [p5,q4,hfull]; exact (zm hR hi).symm
   have hrds:q.Reads=hJ l (H b.Revision) (Vd l (H b.Revision)) r r.Asks.length:=by rw [p6,q5,hfull]
   have hop':o4 b.Records b.Revision q.Key=false:=by rw [p3,← hkey]; exact hop
   have hvi:=hsv'.vi.put hR hb hi p3 hval hrds p4 p7 (fun z hz=>by rw [← hfs]; exact q6 z (by rw [← p6]; exact hz));have hj2:Ok (fL s b fs f rest (bU (rT r f.Answers)) false) fun y=>yj l V b0 b fs.length y∧SV l H y.1 y.2.1:=by
    unfold fL;simp only [cond_false];refine aN (by rw [hkey]; exact p1) (aN hput (aq ⟨⟨⟨hb.put p2,rfl,rfl⟩,htake,hrl,cM _,hs⟩,?_⟩));exact hsv'.pop hl hb (hb.put p2) (e8.put hb p4 hop') hvi (by rw [hkey,← p3]; exact (wx hb p4).2)
   have hrl:=hb.nrec;rw [decide_eq_false (by omega)];exact aB (fun _=>hj2) (fun _=>hj2)
  ·simp only [cond_false];have hlt:=aW hx;rw [J1] at hx;obtain⟨_,hg⟩:=jk hR hi hx f.Answers;have hgood:kB l (gf l x f.Answers):=by
    rcases hg with⟨_,c,hc,_,e4⟩|⟨_,j,hj,_,e4⟩
    ·exact .inl ⟨c,hc,e4⟩
    ·exact .inr ⟨j,by have:=qN hn; omega,e4⟩
   refine aJ (AO hl hb (by omega) hgood) fun y ⟨hy,hy0⟩=>?_;refine aB (fun h1=>?_) (fun g1=>aB (fun _=>?_) (fun g2=>aB (fun _=>?_) (fun g3=>?_)))
   ·obtain⟨m,hm,e⟩:=hy (by simpa using h1);have e:gf l x f.Answers=rk l m:=e;refine eK (ey (by simp; omega)) (aq ⟨⟨lv0,?_,?_,ez _,hs⟩,?_⟩)
    ·show ∀ g∈fs++[aX.mk (gf l x f.Answers) false 0 [] []],BA l g;rw [e]; exact BF hf hm
    ·show (fs++[_]).length≤_;rw [cW]; exact cM _
    ·show SV l H b (fs++[aX.mk (gf l x f.Answers) false 0 [] []]);rw [e]; exact hsv.push hl hb m
   ·exact aq ⟨⟨lv0,hf,Nat.le_succ _,ez _,hs⟩,hsv⟩
   ·exact aq ⟨⟨lv0,hf,Nat.le_succ _,ez _,hs⟩,hsv⟩
   ·have hth:=hy0 (by simpa using g1) (by simpa using g2) (by simpa using g3);refine eK (ey (by simp; omega)) (aJ (wA hR hD hb0 hV hs hb hsv.vi hgood (by rcases hth with h | h | h; exact .inl h; exact .inr (.inl h); exact .inr (.inr h.1))) fun z ⟨hz,hza⟩=>eK (ey (by simp; omega)) ?_);have hnew:BA l (aX.mk f.Key f.Running f.At (f.Reads++[gf l x f.Answers]) (f.Answers++[z.1])):=by
     refine⟨hF.key,hF.at0,hF.at1,?_,?_,?_⟩
     ·show (f.Reads++[_]).length≤3;rw [cW]; simp; omega
     ·show (f.Answers++[_]).length=(f.Reads++[_]).length;rw [cW,cW,J1]; rfl
     ·intro k hk;rcases cg.1 hk with hk | hk
      ·exact hF.good k hk
      ·rw [dq.1 hk]; exact hgood
    have hfv:FV l H b (Ps fs) (aX.mk f.Key f.Running f.At (f.Reads++[gf l x f.Answers]) (f.Answers++[z.1])):=by
     refine⟨fun _=>⟨hop,n,r,hi,hkey,?_,?_,?_,?_⟩,fun h=>absurd (hrun.symm.trans h) (by simp)⟩
     ·show (f.Reads++[_]).length≤_;rw [cW]; simp; omega
     ·show f.Answers++[z.1]=dp l (H b.Revision) (Vd l (H b.Revision)) r (f.Reads++[gf l x f.Answers]).length;rw [cW,vP,mE hx,← q4,hza,sD hR hi hx]
     ·show f.Reads++[gf l x f.Answers]=hJ l (H b.Revision) (Vd l (H b.Revision)) r (f.Reads++[gf l x f.Answers]).length;rw [cW,vP,mL hx,← q4,← q5]
     ·intro q hq;rcases cg.1 hq with hq | hq
      ·exact q6 q hq
      ·rw [dq.1 hq]; exact hth
    rw [hw,oe,pr];refine aq ⟨⟨lv0,(setOk _ hnew).1,(setOk _ hnew).2,ez _,hz⟩,?_⟩;exact hsv'.last (f':=aX.mk f.Key f.Running f.At (f.Reads++[gf l x f.Answers]) (f.Answers++[z.1])) hl hb hb (e8.refl _) rfl hsv'.vi (hfs▸hfv)
 ·obtain⟨i1,i2,i3⟩:=hFV.idle hrun;refine aJ (BX hS f.Key) fun g ⟨hg1,hg2,hg3⟩=>aN (ym hS (by omega)) ?_;have hclen:(ci b.Records g g).length≤1000000:=by have:=pA hS g g; omega
  have hgm:Rm g.length:=by unfold Rm; omega
  have hrun1:BA l (aX.mk f.Key true 0 f.Reads f.Answers):=⟨hF.key,ru _,by show (0:Int)≤1000000; omega,hF.reads,hF.same,hF.good⟩;have hrunv:∀ b' P,o4 b'.Records b'.Revision f.Key=false→FV l H b' P (aX.mk f.Key true 0 f.Reads f.Answers):=fun b' P ho=>by
   refine⟨fun _=>⟨ho,n,r,hi,hkey,?_,?_,?_,?_⟩,fun h=>by cases h⟩
   ·show f.Reads.length≤_; rw [i1]; exact ez _
   ·show f.Answers=dp l _ _ r f.Reads.length; rw [i1,i2]; rfl
   ·show f.Reads=hJ l _ _ r f.Reads.length; rw [i1]; rfl
   ·show ∀ q∈f.Reads,_; rw [i1]; exact fun q hq=>absurd hq mA
  have hj5t:(o4 b.Records b.Revision f.Key=false)→Ok (dI vv s [] b fs f rest g (ci b.Records g g) true) fun y=>yj l V b0 b fs.length y∧SV l H y.1 y.2.1:=fun ho=>by
   unfold dI;rw [cond_true,hw,oe,pr];exact aq ⟨⟨lv0,(setOk _ hrun1).1,(setOk _ hrun1).2,ez _,hs⟩,hsv'.last hl hb hb (e8.refl _) rfl hsv'.vi (hrunv _ _ ho)⟩
  have hj5f:Nv b f.Key→Ok (dI vv s [] b fs f rest g (ci b.Records g g) false) fun y=>yj l V b0 b fs.length y∧SV l H y.1 y.2.1:=fun hnv=>by
   have hck:=i3 hnv;have hat0:=hF.at0;obtain⟨a,ha⟩:∃ a:Nat,f.At=a:=⟨f.At.toNat,by omega⟩;have hta:f.At.toNat=a:=by omega
   rw [hta] at hck;unfold dI;rw [cond_false];refine aB (fun hat=>?_) (fun hat=>?_)
   ·have hat:=of_decide_eq_true hat;have hvi:=hsv'.vi.markG hR hb hnv hg3 (hfs▸hck) (by omega);exact aN (wt (hb.rm hl).1 (hb.rm hl).2.1 hgm false) (aq ⟨⟨⟨hb.mark g false (fun e=>by cases e),rfl,rfl⟩,htake,hrl,ez _,hs⟩,hsv'.pop hl hb (hb.mark g false (fun e=>by cases e)) (e8.mark hb hg3 false) hvi (xw hb hnv.1 hg2)⟩)
   ·have hat:=of_decide_eq_false hat;have hlt:a<(ci b.Records g g).length:=by omega
    have hc:=bC hlt;generalize (ci b.Records g g)[a]=c at hc;have hcm:=aH hc;have hgood:=hb.rdGood (vz hcm);refine aN (by rw [ha,bf]; exact hc) (aJ (AO hl hb (by omega) hgood) fun y ⟨hy,hy0⟩=>?_);refine aB (fun h1=>?_) (fun g1=>aB (fun _=>?_) (fun g2=>aB (fun _=>?_) (fun g3=>?_)))
    ·obtain⟨m,hm,e⟩:=hy (by simpa using h1);refine eK (ey (by simp; omega)) (aq ⟨⟨lv0,?_,?_,ez _,hs⟩,?_⟩)
     ·show ∀ g∈fs++[aX.mk c.Read false 0 [] []],BA l g;rw [e]; exact BF hf hm
     ·show (fs++[_]).length≤_;rw [cW]; exact cM _
     ·show SV l H b (fs++[aX.mk c.Read false 0 [] []]);rw [e]; exact hsv.push hl hb m
    ·exact aq ⟨⟨lv0,hf,Nat.le_succ _,ez _,hs⟩,hsv⟩
    ·exact aq ⟨⟨lv0,hf,Nat.le_succ _,ez _,hs⟩,hsv⟩
    ·have hth:=hy0 (by simpa using g1) (by simpa using g2) (by simpa using g3);refine aN (hb.find hl _) (aJ (Q:=fun z:Int×ao=>py l V b0 z.2∧KF l H b c.Read z.1) (by unfold qT; exact aJ (vy hR hD hb0 hV hs hb hsv.vi hgood) fun z hz=>aq hz) fun z ⟨hz,hch⟩=>?_);refine aB (fun hle=>?_) (fun hgt=>?_)
     ·have hle:=of_decide_eq_true hle;have hat1:=hF.at1;have hw1:IntKind.i64.wrap (f.At+1)=f.At+1:=oA (by omega) (by omega);have hf':BA l (aX.mk f.Key f.Running (IntKind.i64.wrap (f.At+1)) f.Reads f.Answers):=⟨hF.key,by show 0≤IntKind.i64.wrap (f.At+1); rw [hw1]; omega,by show IntKind.i64.wrap (f.At+1)≤_; rw [hw1]; omega,hF.reads,hF.same,hF.good⟩;have hval:∀ m∈b.Records,m.Key=c.Member→vK l (H b.Revision) c.Read=vK l (H m.Verified) c.Read:=fun m hm hmk=>by
       obtain⟨c1,c2,c3⟩:=nD.1 hcm;have hfm:=jp hb.recsA hm hmk;have hmv:m.Verified<b.Revision:=by
        have hmn:Nv b c.Member:=by
         rcases hg3 with⟨_,rfl⟩|⟨q1,h⟩
         ·rw [dq.1 c1]; exact hnv
         ·exact ((cQ hb).1 (jV q1 ((h.2 _).1 c1).1)).1
        have:=(HG hb hmn).2.2;rw [hfm] at this;exact this
       have hmr:c.Read∈m.Reads:=by unfold uM at c2; rw [hfm] at c2; exact c2
       refine hsv.vi.chk hb hm hmv hmr hch ?_;rw [hfm] at hle;exact hle
      have hfv:FV l H b (Ps fs) (aX.mk f.Key f.Running (IntKind.i64.wrap (f.At+1)) f.Reads f.Answers):=by
       refine⟨fun h=>absurd (hrun.symm.trans h) (by simp),fun _=>⟨i1,i2,fun _=>?_⟩⟩;show oa l H b (Ps fs) f.Key (IntKind.i64.wrap (f.At+1)).toNat;rw [hw1,show (f.At+1).toNat=a+1 by omega];exact hck.snoc hb hnv hg3 hc hth hval
      rw [hw,oe,pr];exact aq ⟨⟨lv0,(setOk _ hf').1,(setOk _ hf').2,ez _,hz⟩,hsv'.last (f':=aX.mk f.Key f.Running (IntKind.i64.wrap (f.At+1)) f.Reads f.Answers) hl hb hb (e8.refl _) rfl hsv'.vi (hfs▸hfv)⟩
     ·refine aN (fP _) (aB (fun hcy=>?_) (fun hcy=>?_))
      ·have hd:true=true→∀ q∈g,gg q=true:=fun _ q hq=>by
        rcases hg3 with⟨_,rfl⟩|⟨q1,h⟩
        ·rw [dq.1 hq]; exact hcy
        ·exact (zD (jV q1 ((h.2 q).1 hq).1)).1
       have hop:o4 (b.Records.map (cz g true b.Revision)) b.Revision f.Key=false:=by
        cases ho:o4 (b.Records.map (cz g true b.Revision)) b.Revision f.Key with
        | false=>rfl
        | true =>
         have hnv2:=((cQ (hb.mark g true hd)).1 ho).1;have hfe:(aS (b.Records.map (cz g true b.Revision)) f.Key).1.Dirty=false:=hnv2.2.1;rw [oP hb.recsA g true b.Revision,hnv.1,if_pos rfl,nG (by rw [(bR hnv.1).2]; exact hg2)] at hfe;cases hfe
       refine aN (wt (hb.rm hl).1 (hb.rm hl).2.1 hgm true) ?_;unfold fN;rw [hw,oe,pr];exact aq ⟨⟨⟨hb.mark g true hd,rfl,rfl⟩,(setOk _ hrun1).1,(setOk _ hrun1).2,ez _,hz⟩,hsv'.last hl hb (hb.mark g true hd) (e8.mark hb hg3 true) rfl (hsv'.vi.dirty g) (hrunv ⟨b.Revision,b.Inputs,b.Records.map (cz g true b.Revision)⟩ _ hop)⟩
      ·have hop:o4 b.Records b.Revision f.Key=false:=by
        cases ho:o4 b.Records b.Revision f.Key with
        | false=>rfl
        | true =>
         have:=(zD ho).1;rw [this] at hcy; cases hcy
       unfold fN;rw [hw,oe,pr];exact aq ⟨⟨lv0,(setOk _ hrun1).1,(setOk _ hrun1).2,ez _,hz⟩,hsv'.last hl hb hb (e8.refl _) rfl hsv'.vi (hrunv _ _ hop)⟩
  have nov:∀ q:Bool,((aS b.Records f.Key).2=true→(aS b.Records f.Key).1.Verified=b.Revision→q=true)→(q=true→cA b f.Key=true)→Ok (fO vv s [] b fs f rest (aS b.Records f.Key).2 (aS b.Records f.Key).1.Dirty g (ci b.Records g g) q) fun y=>yj l V b0 b fs.length y∧SV l H y.1 y.2.1:=fun q hq1 hq2=>by
   unfold fO;refine aB (fun hq=>aq ⟨⟨lv0,htake,hrl,ez _,hs⟩,hsv'.pop hl hb hb (e8.refl _) hsv'.vi (hq2 hq)⟩) (fun hq=>aB (fun hh=>hj5t ?_) (fun hh=>?_))
   ·unfold o4;rw [show (aS b.Records f.Key).2=false by simpa using hh]; rfl
   ·have hh:(aS b.Records f.Key).2=true:=by simpa using hh
    cases hdd:(aS b.Records f.Key).1.Dirty with
    | true =>
     refine hj5t ?_;unfold o4 AX;rw [hdd]; simp
    | false =>
     refine hj5f ⟨hh,hdd,?_⟩;unfold cA;rw [hh,n9,decide_eq_false_iff_not];intro e;rw [hq1 hh e] at hq; cases hq
  refine aB (fun hh=>nov _ (fun _ e=>by simpa using e) fun e=>?_) (fun hh=>nov false (fun h=>by rw [hh] at h; cases h) fun e=>by cases e);unfold cA;rw [hh,n9,decide_eq_true_eq];simpa using e
end
end
section
set_option maxRecDepth 100000
set_option maxHeartbeats 4000000
open Go.RowKit
noncomputable section
def nq (b:LR):Option LR:=some (b)
def kN (b:Int) (c:LR):Option (Fl (LR×Int) (LR)):=some (.go (c,IntKind.i64.wrap (b+1)))
def kO (f:LR) (e:ae) (d:LR) (c:Int):Option (Fl (LR×Int) (LR)):=cond (decide (c<(f.length:Int))) ((bk f c).bind fun b=>cond (!(b.Key.Kind==e.Kind&&b.Key.Text.toList==e.Text.toList)) (gd (bL (d.length+([b]).length)) <| kN c (d++([b]))) (kN c d)) (some (.out d))
def mP (c:LR) (b:ae):Option LR:=(loop (fun s:LR×Int=>kO c b s.1 s.2) (([]:List ad),0)).bind fun r=>nq r
theorem uo (T:Nat→Prop) (W0:World) (hT:TW T W0) (e:LR) (d:ae) (r:Value) (G:aC aa T W0 r e) (y:LR) (hM:mP e d=some y):a7 aO No 53 [r,.agg (aV d).toArray] W0 (fun v w'=>∃ (D:Value) (iN:ba),v=D∧ge aa T W0 w' [ah D iN] 33 D iN y):=by
 refine en Tryz.func53 Tryz.ntmps53 hT fun a hS=>?_;replace hS:=hS.fS (aC.dn G);unfold mP at hM;refine am hS fun a hS=>?_;refine kb hS fun g N a w hk hS=>?_;refine am hS fun a hS=>?_;refine aK (J:=fun a w=>∃ (m:LR) (j:Value) (h:LV),St W0 No T 24 [(5,j)] [ah j h] [an aa h m] a w∧nq m=some y) ?_ ?_
 ·skip;refine am hS fun a hS=>?_;replace hS:=hS.nilRow aa 33 (by decide);obtain⟨S,F,hMo1⟩:=bd hM;refine bx _ (fun s a w=>∃ (f:LR) (c:Int) (o:Value) (k:LV),(f,c)=s∧St W0 No T 24 [(3,pt g 0),(5,o),(8,r),(9,al (e.length:Int)),(10,al c)] [ah o k,.box g (aV d) 31] [an aa k f,aL aa r e] a w) F ⟨_,_,_,_,rfl,hS.mt [0,1] [0,1]⟩ ?_;rintro s a w E ⟨f,c,o,k,rfl,hS⟩ hM hf1;have hM:kO e d f c=some E:=hM;unfold kO at hM;refine am hS fun a hS=>?_;refine ay ?_;rcases cd hM with⟨z,hM⟩|⟨z,hM⟩
  ·refine am hS fun a hS=>?_;refine aK (J:=fun a w=>∃ (n:LR) (p:Value) (l:LV),St W0 No T 24 [(3,pt g 0),(5,p),(8,r),(9,al (e.length:Int)),(10,al c)] [ah p l,.box g (aV d) 31] [an aa l n,aL aa r e] a w∧kN c n=some E) ?_ ?_
   ·skip;refine am hS fun a hS=>?_;obtain⟨b,t,hM⟩:=bd hM;refine wl rfl (bu (R:=aa) hS dW bX rfl rfl 1 rfl t rfl fun H P L A a hS=>?_);obtain⟨q,rfl,u⟩:=A;replace hS:=hS.fS u;refine am hS fun a hS=>?_;refine ka hS dD fun I O a w hk hS=>?_;refine go hS fun a w hS=>?_;refine wl rfl (ky (v:=.bool (!(b.Key.Kind==d.Kind&&b.Key.Text.toList==d.Text.toList))) hS (yo hS rfl rfl) rfl rfl fun a hS=>?_);refine am hS fun a hS=>?_;rcases cd hM with⟨B,hM⟩|⟨B,hM⟩
    ·refine am hS fun a hS=>?_;refine wl rfl (bj (ps:=[(0,.tmp 19)]) hS pp dD (zl:=[al 0,aZ bW,aZ bW,.slice none 0 0,al 0,al 0,al 0,.bool false]) (by kernel_rfl) rfl (us:=[(aE b q)]) ⟨rfl,trivial⟩ (ws:=(aE b q)) rfl rfl rfl rfl fun K a w hk hS=>?_);replace hS:=(hS.lit (R:=aa) (us:=(aE b q)) (xs:=[b]) 0 rfl (by decide) (az.one_ (R:=aa) (x:=b) (⟨_,rfl,(hS.get 0 rfl)⟩)) rfl rfl).freeze (R:=aa) 0 rfl 0 rfl;obtain⟨C,hM⟩:=bm hM;refine wl rfl (bB (R:=aa) (xs:=f) (ys:=[b]) hS pp (by decide) (by decide) rfl rfl 1 rfl 4 rfl 0 rfl C rfl fun Q M a w hk hS=>?_);exact fz
    exact fz
   rintro a w ⟨n,p,l,hS,hM⟩;unfold kN at hM;exact fz
  exact fz
 rintro a w ⟨m,j,h,hS,hM⟩;unfold nq at hM;refine am hS fun a hS=>?_;cases hM
 refine aG hS rfl (aw hS rfl aF) ?_;exact⟨j,h,rfl,hS.retOwn ⟨.inr (aH (i:=0) rfl),trivial⟩ 0 rfl 0 rfl⟩
def n6 (b:ai) (c:LR):Option ai:=some ((ai.mk b.Revision b.Inputs c))
def k9 (c:Int) (b:LR):Option (Fl (Int×LR) (LR)):=some (.go (IntKind.i64.wrap (c+1),b))
def lb (e:cI) (b:Int) (c:LR):Option (Fl (Int×LR) (LR)):=cond (decide (b<(e.Stack.length:Int))) ((bk e.Stack b).bind fun d=>(b7 d.Key).bind fun f=>cond f ((mP c d.Key).bind fun g=>k9 b g) (k9 b c)) (some (.out c))
def mc (c:cI):Option ai:=(dR c.Base).bind fun b=>(loop (fun s:Int×LR=>lb c s.1 s.2) (0,b.Records)).bind fun r=>n6 b r
theorem xd (T:Nat→Prop) (W0:World) (hT:TW T W0) (b:cI) (Z:Value) (v2:Value) (v3:Value) (v4:Value) (u:Value) (v6:Value) (S:aC ar T W0 Z b.Rules) (U:aC ab T W0 v2 b.Base.Inputs) (V:aC aa T W0 v3 b.Base.Records) (W:aC ac T W0 v4 b.Goals) (X:aC au T W0 u b.Stack) (Y:aC ac T W0 v6 b.Ran) (y:ai) (hM:mc b=some y):a7 aO No 88 [.agg (sY b Z v2 v3 v4 u v6).toArray] W0 (fun v w'=>∃ (C:Value) (wI:ba) (D:Value) (oI:ba),v = .agg (a6 y C D).toArray∧ge ab T W0 w' [aQ C wI,ah D oI] 75 C wI y.Inputs∧ge aa T W0 w' [aQ C wI,ah D oI] 33 D oI y.Records∧(∀ k,C.ownBlock=some k→D.ownBlock≠some k)):=by
 refine en Tryz.func88 Tryz.ntmps88 hT fun a hS=>?_;replace hS:=(((((hS.fS (aC.dn S)).fS (aC.dn U)).fS (aC.dn V)).fS (aC.dn W)).fS (aC.dn X)).fS (aC.dn Y);unfold mc at hM;refine am hS fun a hS=>?_;refine kb hS fun a4 av a w hk hS=>?_;refine ka hS lx fun f b0 a w hk hS=>?_;refine am hS fun a hS=>?_;obtain⟨d,F,hM⟩:=bd hM;refine kc hS wH (dz _ _ hS.dlt b.Base _ _ (hS.get 4 rfl) (hS.get 3 rfl) _ F) fun _ w hR a hk hA=>?_;obtain⟨e,c,b6,af,he,z,A,P⟩:=hR;obtain rfl:=he.symm;have hS:=xN hA z A P;refine ka hS lx fun g b1 a w hk hS=>?_;refine go hS fun a w hS=>?_;refine aK (J:=fun a w=>∃ (n:LR) (m:Value) (l:LV),St W0 No T 27 [(2,pt f 0),(3,pt g 0)] [.box f [al 0,.slice none 0 0,.slice none 0 0] 25,aQ e c,ah m l,.box g (a6 d e m) 25] [an ab c d.Inputs,an aa l n] a w∧n6 d n=some y) ?_ ?_
 ·skip;refine am hS fun a hS=>?_;obtain⟨r1,Q,hMo1⟩:=bd hM;refine bx _ (fun s a w=>∃ (h:Int) (j:LR) (r:Value) (p:LV),(h,j)=s∧St W0 No T 27 [(2,pt f 0),(3,pt g 0),(10,u),(11,al (b.Stack.length:Int)),(12,al h)] [.box f [al 0,.slice none 0 0,.slice none 0 0] 25,aQ e c,ah r p,.box g (a6 d e r) 25] [aL au u b.Stack,an ab c d.Inputs,an aa p j] a w) Q ⟨_,_,_,_,rfl,hS.mt [3,1,2,0] [3,1,0]⟩ ?_;rintro s a w O ⟨h,j,r,p,rfl,hS⟩ hM hf1;have hM:lb b h j=some O:=hM;unfold lb at hM;refine am hS fun a hS=>?_;refine ay ?_;rcases cd hM with⟨L,hM⟩|⟨L,hM⟩
  ·refine am hS fun a hS=>?_;refine aK (J:=fun a w=>∃ (o:LR) (t:Value) (q:LV),St W0 No T 27 [(2,pt f 0),(3,pt g 0),(10,u),(11,al (b.Stack.length:Int)),(12,al h)] [.box f [al 0,.slice none 0 0,.slice none 0 0] 25,aQ e c,ah t q,.box g (a6 d e t) 25] [aL au u b.Stack,an ab c d.Inputs,an aa q o] a w∧k9 h o=some O) ?_ ?_
   ·skip;refine am hS fun a hS=>?_;obtain⟨x,E,hM⟩:=bd hM;refine wl rfl (bu (R:=au) hS se sj rfl rfl 0 rfl E rfl fun a5 b3 ag M a hS=>?_);obtain⟨b8,b9,rfl,I,K⟩:=M;replace hS:=(hS.fS I).fS K;refine am hS fun a hS=>?_;refine ka hS qD fun a9 b2 a w hk hS=>?_;refine go hS fun a w hS=>?_;obtain⟨b4,G,hM⟩:=bd hM;refine kc hS uP (cu _ _ hS.dlt x.Key _ G) fun _ w hR a hk hA=>?_;obtain rfl:=hR;have hS:=ce hA;refine am hS fun a hS=>?_;rcases cd hM with⟨N,hM⟩|⟨N,hM⟩
    ·refine am hS fun a hS=>?_;replace hS:=hS.freeze (R:=aa) 3 rfl 5 rfl;obtain⟨b5,H,hM⟩:=bd hM;refine kc hS JP (uo _ _ hS.dlt j x.Key _ (hS.get 0 rfl) _ H) fun _ w hR a hk hA=>?_;obtain⟨bb,ak,he,B⟩:=hR;obtain rfl:=he.symm;have hS:=pz hA B;exact fz
    exact fz
   rintro a w ⟨o,t,q,hS,hM⟩;unfold k9 at hM;exact fz
  exact fz
 rintro a w ⟨n,m,l,hS,hM⟩;unfold n6 at hM;refine go hS fun a w hS=>?_;cases hM
 refine aG hS rfl (rC 0 hS) ?_;exact⟨e,c,m,l,rfl,hS.retOwn ⟨.inr (aH (i:=1) rfl),⟨.inr (aH (i:=2) rfl),trivial⟩⟩ 1 rfl 0 rfl,hS.retOwn ⟨.inr (aH (i:=1) rfl),⟨.inr (aH (i:=2) rfl),trivial⟩⟩ 2 rfl 1 rfl,(hS.apart2 1 rfl 2 rfl (by decide))⟩
def mQ (b:ad):Option Int:=some (IntKind.i64.wrap ((IntKind.i64.wrap ((IntKind.i64.wrap (16+(b.Key.Text.size:Int)))+(b.Value.size:Int)))+(IntKind.i64.wrap (8*(b.Reads.length:Int)))))
theorem qR (T:Nat→Prop) (W0:World) (hT:TW T W0) (b:ad) (d:Value) (c:aC ac T W0 d b.Reads) (y:Int) (hM:mQ b=some y):a7 aO No 24 [.agg (aE b d).toArray] W0 (fun v w'=>v=al y):=by
 refine en Tryz.func24 Tryz.ntmps24 hT fun a hS=>?_;replace hS:=hS.fS (aC.dn c);unfold mQ at hM;refine am hS fun a hS=>?_;refine kb hS fun e f a w hk hS=>?_;exact fz
def mj (d:ad) (e:ad):Option Bool:=(mQ d).bind fun b=>(mQ e).bind fun c=>cond ((IntKind.i64.wrap (d.Cost*c):Int) != (IntKind.i64.wrap (e.Cost*b))) (some (decide ((IntKind.i64.wrap (d.Cost*c):Int)<(IntKind.i64.wrap (e.Cost*b))))) (cond (b != c) (some (decide (c<b))) ((iT d.Key e.Key).bind fun f=>some (decide (f<0))))
theorem xf (T:Nat→Prop) (W0:World) (hT:TW T W0) (hLv:dc T W0) (b:ad) (c:ad) (k:Value) (l:Value) (i:aC ac T W0 k b.Reads) (j:aC ac T W0 l c.Reads) (y:Bool) (hM:mj b c=some y):a7 aO No 71 [.agg (aE b k).toArray,.agg (aE c l).toArray] W0 (fun v w'=>v = .bool y):=by
 refine en Tryz.func71 Tryz.ntmps71 hT fun a hS=>?_;replace hS:=((hS.fact br (dc.dn hLv)).fS (aC.dn i)).fS (aC.dn j);unfold mj at hM;refine am hS fun a hS=>?_;refine kb hS fun m o a w hk hS=>?_;refine kb hS fun n p a w hk hS=>?_;refine am hS fun a hS=>?_;refine ay ?_;refine dr [] hS fun w hQ hS=>?_;refine gE [0,2] hS fun a hS=>?_;obtain⟨q,d,hM⟩:=bd hM;refine ec 1 hS HZ (qR _ _ hS.dlt b _ (hS.get 1 rfl) _ d) fun _ w hR a hk hA=>?_;obtain rfl:=hR;have hS:=ce hA;obtain⟨r,e,hM⟩:=bd hM;refine ec 3 hS HZ (qR _ _ hS.dlt c _ (hS.get 0 rfl) _ e) fun _ w hR a hk hA=>?_;obtain rfl:=hR;have hS:=ce hA;refine gE [4,5] hS fun a hS=>?_;refine eD ?_;refine am hS fun a hS=>?_;refine ay ?_;refine am hS fun a hS=>?_;rcases cd hM with⟨g,hM⟩|⟨g,hM⟩
 ·exact fz
 refine am hS fun a hS=>?_;rcases cd hM with⟨h,hM⟩|⟨h,hM⟩
 ·exact fz
 refine am hS fun a hS=>?_;obtain⟨s,f,hM⟩:=bd hM;refine kc hS Dk (lB _ _ hS.dlt (hS.get 2 rfl) b.Key c.Key _ f) fun _ w hR a hk hA=>?_;obtain rfl:=hR;have hS:=ce hA;exact fz
def pg (b:LR):Option LR:=some (b)
def ml (b:Int) (c:LR):Option (Fl (LR×Int) (LR)):=some (.go (c,IntKind.i64.wrap (b+1)))
def mm (d:LR) (g:Int) (c:ad) (e:Int):Option (Fl (LR×Int) (LR)):=(pm d 0 e).bind fun b=>(pm d e d.length).bind fun f=>gd (bL (([]:List ad).length+b.length)) <| gd (bL ((([]:List ad)++b).length+([c]).length)) <| gd (bL (((([]:List ad)++b)++([c])).length+f.length)) <| ml g (((([]:List ad)++b)++([c]))++f)
def mn (c:LR) (d:ad) (b:Int):Option (Fl (Int) (Int)):=cond (decide (b<(c.length:Int))) ((bk c b).bind fun e=>(mj e d).bind fun f=>cond f (some (.go (IntKind.i64.wrap (b+1)))) (some (.out b))) (some (.out b))
def mo (e:LR) (c:LR) (b:Int):Option (Fl (LR×Int) (LR)):=cond (decide (b<(e.length:Int))) ((bk e b).bind fun d=>(loop (fun s:Int=>mn c d s) 0).bind fun r=>mm c b d r) (some (.out c))
def nU (b:LR):Option LR:=(loop (fun s:LR×Int=>mo b s.1 s.2) (([]:List ad),0)).bind fun r=>pg r
theorem yf (T:Nat→Prop) (W0:World) (hT:TW T W0) (hLv:dc T W0) (e:LR) (o:Value) (b5:aC aa T W0 o e) (y:LR) (hM:nU e=some y):a7 aO No 46 [o] W0 (fun v w'=>∃ (v2:Value) (iN:ba),v=v2∧ge aa T W0 w' [ah v2 iN] 33 v2 iN y):=by
 refine en Tryz.func46 Tryz.ntmps46 hT fun a hS=>?_;replace hS:=(hS.fact br (dc.dn hLv)).fS (aC.dn b5);unfold nU at hM;refine am hS fun a hS=>?_;refine aK (J:=fun a w=>∃ (E:LR) (u:Value) (q:LV),St W0 No T 40 [(3,u)] [ah u q] [an aa q E,br] a w∧pg E=some y) ?_ ?_
 ·skip;refine am hS fun a hS=>?_;replace hS:=hS.nilRow aa 33 (by decide);obtain⟨r1,b3,hMo1⟩:=bd hM;refine bx _ (fun s a w=>∃ (f:LR) (d:Int) (m:Value) (g:LV),(f,d)=s∧St W0 No T 40 [(3,m),(7,o),(8,al (e.length:Int)),(9,al d)] [ah m g] [an aa g f,aL aa o e,br] a w) b3 ⟨_,_,_,_,rfl,hS.mt [0] [0,1,2]⟩ ?_;rintro s a w Z ⟨f,d,m,g,rfl,hS⟩ hM hf1;have hM:mo e f d=some Z:=hM;unfold mo at hM;refine am hS fun a hS=>?_;refine ay ?_;rcases cd hM with⟨a0,hM⟩|⟨a0,hM⟩
  ·refine am hS fun a hS=>?_;refine aK (J:=fun a w=>∃ (F:LR) (G:Value) (z:LV),St W0 No T 40 [(3,G),(7,o),(8,al (e.length:Int)),(9,al d)] [ah G z] [an aa z F,aL aa o e,br] a w∧ml d F=some Z) ?_ ?_
   ·skip;refine am hS fun a hS=>?_;obtain⟨b,N,hM⟩:=bd hM;refine wl rfl (bu (R:=aa) hS dW bX rfl rfl 1 rfl N rfl fun b6 c1 bb a1 a hS=>?_);obtain⟨c,rfl,U⟩:=a1;replace hS:=hS.fS U;refine am hS fun a hS=>?_;refine ka hS dD fun p c0 a w hk hS=>?_;refine go hS fun a w hS=>?_;refine aK (J:=fun a w=>∃ (D:Int),St W0 No T 40 [(3,m),(5,pt p 0),(6,al D),(7,o),(8,al (e.length:Int)),(9,al d)] [ah m g,.box p (aE b c) 33] [an aa g f,aL aa o e,aL ac c b.Reads,br] a w∧mm f d b D=some Z) ?_ ?_
    ·skip;refine am hS fun a hS=>?_;obtain⟨r2,b4,hMo2⟩:=bd hM;refine bx _ (fun s a w=>∃ (t:Int),t=s∧St W0 No T 40 [(3,m),(5,pt p 0),(6,al t),(7,o),(8,al (e.length:Int)),(9,al d)] [ah m g,.box p (aE b c) 33] [an aa g f,aL aa o e,aL ac c b.Reads,br] a w) b4 ⟨_,rfl,hS.mt [1,0] [2,3,0,4]⟩ ?_;rintro s a w f2 ⟨t,rfl,hS⟩ hM hf2;have hM:mn f b t=some f2:=hM;unfold mn at hM;refine ay ?_;refine ay ?_;refine dr [] hS fun w hQ hS=>?_;refine gE [0,1,2,3,4] hS fun a hS=>?_;rcases cd hM with⟨r,hM⟩|⟨r,hM⟩
     ·refine gE [5,6] hS fun a hS=>?_;obtain⟨A,O,hM⟩:=bd hM;obtain⟨W,ag,c2,bi,a2,a3,a4,a5⟩:=bP (R:=aa) hS dW bX 0 rfl 0 rfl O;obtain⟨M,rfl,V⟩:=a2;replace hS:=hS.fS V;refine wO 7 (v:=pt W ag) rfl (by kernel_rfl) (by kernel_rfl) (by kernel_rfl) rfl hQ hS (a5 rfl rfl) rfl rfl rfl r rfl rfl fun a hS=>?_;refine wO (l:=[]) 8 (v:=.agg (aE A M).toArray) rfl (by kernel_rfl) (by kernel_rfl) (by kernel_rfl) (by kernel_rfl) hQ hS (bq (k:=0) hS bX 0 rfl a3 a4 rfl bn (us:=(aE A M)) rfl rfl (fun h=>by cases h)) rfl rfl rfl r rfl rfl fun a hS=>?_;refine gE [9] hS fun a hS=>?_;obtain⟨c3,S,hM⟩:=bd hM;refine cS (i:=10) rfl (by kernel_rfl) hS rfl rfl rfl r (bz hS Le rfl rfl (xf _ _ hS.dlt (hS.get 4 rfl) A b _ _ (hS.get 0 rfl) (hS.get 3 rfl) _ S) fun _ w hR a hk hA=>⟨fA (hk),?_⟩);obtain rfl:=hR;have hS:=ce hA;refine gE [11] hS fun a hS=>?_;refine eD ?_;exact fz
     refine gE [5,6,7,8,9,10,11] hS fun a hS=>?_;refine eD ?_;exact fz
    rintro a w ⟨D,hS,hM⟩;unfold mm at hM;replace hS:=hS.nilRow aa 33 (by decide);refine dr [(3,.blk (Value.ownBlock (.slice none 0 0))),(6,.any),(10,.any)] hS fun w hQ hS=>?_;refine gE [0,1] hS fun a hS=>?_;obtain⟨n,P,hM⟩:=bd hM;obtain⟨ak,H,a9⟩:=wL (R:=aa) hS dW bX 1 rfl 1 rfl P;refine dy 2 (v:=ak) rfl (by kernel_rfl) (by kernel_rfl) (by kernel_rfl) rfl hQ hS (a9 (k1:=.i64) rfl (.inr ⟨rfl,rfl⟩) (.inl ⟨_,rfl,rfl⟩)) rfl rfl rfl fun a hS=>?_;refine dy (l:=[.blk (Value.ownBlock (.slice none 0 0))]) 4 (v:=.agg (aE b c).toArray) rfl (by kernel_rfl) (by kernel_rfl) (by kernel_rfl) (by kernel_rfl) hQ hS (dh hS rfl bX 2 rfl (gA hS 2 rfl rfl 0 rfl rfl (by decide) bn) (us:=(aE b c)) rfl rfl (fun h=>by cases h)) rfl rfl rfl fun a hS=>?_;refine gE [7,8] hS fun a hS=>?_;obtain⟨L,Q,hM⟩:=bd hM;obtain⟨av,I,af⟩:=wL (R:=aa) hS dW bX 1 rfl 1 rfl Q;refine dy 9 (v:=av) rfl (by kernel_rfl) (by kernel_rfl) (by kernel_rfl) rfl hQ hS (af (k2:=.i64) rfl (.inl ⟨_,rfl,rfl⟩) (.inr ⟨rfl,rfl⟩)) rfl rfl rfl fun a hS=>?_;obtain⟨K,hM⟩:=bm hM;refine dm (i:=3) (j:=5) rfl rfl (by kernel_rfl) rfl rfl ?_ ?_
    ·skip;skip;replace hS:=hS.freeze (R:=aa) 1 rfl 1 rfl;replace hS:=hS.fS (H _ _ (hS.get 0 rfl));refine id (bB (R:=aa) (xs:=([]:List ad)) (ys:=n) hS pp (by decide) (by decide) rfl rfl 0 rfl 2 rfl 0 rfl K rfl fun c4 bl a w hk hS=>⟨ij rfl hk gt,?_⟩);refine e1 5 (bj (ps:=[(0,.tmp 31)]) hS pp dD (zl:=[al 0,aZ bW,aZ bW,.slice none 0 0,al 0,al 0,al 0,.bool false]) (by kernel_rfl) rfl (us:=[(aE b c)]) ⟨rfl,trivial⟩ (ws:=(aE b c)) rfl rfl rfl rfl fun b8 a w hk hS=>⟨fA (hk),?_⟩);replace hS:=(hS.lit (R:=aa) (us:=(aE b c)) (xs:=[b]) 0 rfl (by decide) (az.one_ (R:=aa) (x:=b) (⟨_,rfl,(hS.get 6 rfl)⟩)) rfl rfl).freeze (R:=aa) 0 rfl 0 rfl;obtain⟨B,hM⟩:=bm hM;refine e1 6 (bB (R:=aa) (xs:=(([]:List ad)++n)) (ys:=[b]) hS pp (by decide) (by decide) rfl rfl 0 rfl 2 rfl 0 rfl B rfl fun b0 X a w hk hS=>⟨ij rfl hk rS,?_⟩);replace hS:=hS.fS (I _ _ (hS.get 5 rfl));obtain⟨C,hM⟩:=bm hM;refine e1 10 (bB (R:=aa) (xs:=((([]:List ad)++n)++([b]))) (ys:=L) hS pp (by decide) (by decide) rfl rfl 0 rfl 1 rfl 0 rfl C rfl fun b1 Y a w hk hS=>⟨ij rfl hk rS,?_⟩);refine gE [11] hS fun a hS=>?_;refine eD ?_;exact⟨_,_,_,hS.mt [0] [0,10,12],hM⟩
    skip;refine id (bj (ps:=[(0,.tmp 31)]) hS pp dD (zl:=[al 0,aZ bW,aZ bW,.slice none 0 0,al 0,al 0,al 0,.bool false]) (by kernel_rfl) rfl (us:=[(aE b c)]) ⟨rfl,trivial⟩ (ws:=(aE b c)) rfl rfl rfl rfl fun b9 a w hk hS=>⟨fA (hk),?_⟩);replace hS:=hS.freeze (R:=aa) 2 rfl 1 rfl;replace hS:=hS.fS (H _ _ (hS.get 0 rfl));refine e1 3 (bB (R:=aa) (xs:=([]:List ad)) (ys:=n) hS pp (by decide) (by decide) rfl rfl 1 rfl 2 rfl 0 rfl K rfl fun c5 bs a w hk hS=>⟨ij rfl hk gt,?_⟩);replace hS:=(hS.lit (R:=aa) (us:=(aE b c)) (xs:=[b]) 0 rfl (by decide) (az.one_ (R:=aa) (x:=b) (⟨_,rfl,(hS.get 6 rfl)⟩)) rfl rfl).freeze (R:=aa) 0 rfl 0 rfl;obtain⟨B,hM⟩:=bm hM;refine e1 6 (bB (R:=aa) (xs:=(([]:List ad)++n)) (ys:=[b]) hS pp (by decide) (by decide) rfl rfl 0 rfl 2 rfl 0 rfl B rfl fun b0 X a w hk hS=>⟨ij rfl hk rS,?_⟩);replace hS:=hS.fS (I _ _ (hS.get 5 rfl));obtain⟨C,hM⟩:=bm hM;refine e1 10 (bB (R:=aa) (xs:=((([]:List ad)++n)++([b]))) (ys:=L) hS pp (by decide) (by decide) rfl rfl 0 rfl 1 rfl 0 rfl C rfl fun b1 Y a w hk hS=>⟨ij rfl hk rS,?_⟩);refine gE [11] hS fun a hS=>?_;refine eD ?_;exact⟨_,_,_,hS.mt [0] [0,10,12],hM⟩
   rintro a w ⟨F,G,z,hS,hM⟩;unfold ml at hM;exact fz
  exact fz
 rintro a w ⟨E,u,q,hS,hM⟩;unfold pg at hM;refine am hS fun a hS=>?_;cases hM
 refine aG hS rfl (aw hS rfl aF) ?_;exact⟨u,q,rfl,hS.retOwn ⟨.inr (aH (i:=0) rfl),trivial⟩ 0 rfl 0 rfl⟩
def pd (b:Int):Option Int:=some (b)
def mi (d:LR) (c:Int) (b:Int):Option (Fl (Int×Int) (Int)):=cond (decide (b<(d.length:Int))) ((bk d b).bind fun e=>(mQ e).bind fun f=>some (.go (IntKind.i64.wrap (c+f),IntKind.i64.wrap (b+1)))) (some (.out c))
def nT (b:LR):Option Int:=(loop (fun s:Int×Int=>mi b s.1 s.2) (0,0)).bind fun r=>pd r
theorem ye (T:Nat→Prop) (W0:World) (hT:TW T W0) (d:LR) (i:Value) (n:aC aa T W0 i d) (y:Int) (hM:nT d=some y):a7 aO No 15 [i] W0 (fun v w'=>v=al y):=by
 refine en Tryz.func15 Tryz.ntmps15 hT fun a hS=>?_;replace hS:=hS.fS (aC.dn n);unfold nT at hM;refine am hS fun a hS=>?_;refine aK (J:=fun a w=>∃ (e:Int),St W0 No T 18 [(3,al e)] [] [] a w∧pd e=some y) ?_ ?_
 ·skip;refine am hS fun a hS=>?_;obtain⟨A,m,hMo1⟩:=bd hM;refine bx _ (fun s a w=>∃ (c:Int) (b:Int),(c,b)=s∧St W0 No T 18 [(3,al c),(6,i),(7,al (d.length:Int)),(8,al b)] [] [aL aa i d] a w) m ⟨_,_,rfl,hS.mt [] [0]⟩ ?_;rintro s a w r ⟨c,b,rfl,hS⟩ hM hf1;have hM:mi d c b=some r:=hM;unfold mi at hM;refine am hS fun a hS=>?_;refine ay ?_;rcases cd hM with⟨k,hM⟩|⟨k,hM⟩
  ·refine am hS fun a hS=>?_;refine ay ?_;refine am hS fun a hS=>?_;obtain⟨j,f,hM⟩:=bd hM;refine wl rfl (bu (R:=aa) hS dW bX rfl rfl 0 rfl f rfl fun o u q l a hS=>?_);obtain⟨z,rfl,h⟩:=l;replace hS:=hS.fS h;refine am hS fun a hS=>?_;refine ka hS dD fun p t a w hk hS=>?_;refine go hS fun a w hS=>?_;obtain⟨x,g,hM⟩:=bd hM;refine kc hS HZ (qR _ _ hS.dlt j _ (hS.get 0 rfl) _ g) fun _ w hR a hk hA=>?_;obtain rfl:=hR;have hS:=ce hA;exact fz
  exact fz
 rintro a w ⟨e,hS,hM⟩;unfold pd at hM;exact fz
def mg (b:ai) (c:LK) (d:LR):Option (ai×LK×Int):=some (((ai.mk b.Revision b.Inputs d),c,0))
def jS (b:Int) (c:LK) (d:LR):Option (Fl (LK×Int×LR) (LK×LR)):=some (.go (c,IntKind.i64.wrap (b+1),d))
def gU (c:LK) (d:Int) (e:LR) (b:ad) (f:Bool):Option (Fl (LK×Int×LR) (LK×LR)):=cond f ((mP e b.Key).bind fun g=>gd (bL (c.length+([b.Key]).length)) <| jS d (c++([b.Key])) g) (jS d c e)
def mh (f:Int) (h:LK) (g:LR) (e:LK) (b:Int) (c:LR):Option (Fl (LK×Int×LR) (LK×LR)):=cond (decide (b<(g.length:Int))) ((bk g b).bind fun d=>(nT c).bind fun i=>cond (decide (f<i)) ((mN h d.Key).bind fun j=>gU e b c d (!(j))) (gU e b c d false)) (some (.out (e,c)))
def nS (c:ai) (b:Int) (e:LK):Option (ai×LK×Int):=(ic c).bind fun g=>cond (!(g)) (some (((ai.mk 0 ([]:List aT) ([]:List ad)),([]:List ae),42))) (cond (decide (b<0)) (some (((ai.mk 0 ([]:List aT) ([]:List ad)),([]:List ae),2))) (cond (decide ((1073741824:Int)<b)) (some (((ai.mk 0 ([]:List aT) ([]:List ad)),([]:List ae),2))) ((dR c).bind fun d=>(nU c.Records).bind fun f=>(loop (fun s:LK×Int×LR=>mh b e f s.1 s.2.1 s.2.2) (([]:List ae),0,d.Records)).bind fun r=>mg d r.1 r.2)))
theorem yd (T:Nat→Prop) (W0:World) (hT:TW T W0) (t:ai) (d:Int) (g:LK) (v1:Value) (v2:Value) (G:Value) (hD:tU T W0 []) (bs:aC ab (dT T []) W0 v1 t.Inputs) (bt:aC aa (dT T []) W0 v2 t.Records) (c0:aC ac (dT T []) W0 G g) (hLv:dc (dT T []) W0) (y:ai×LK×Int) (hM:nS t d g=some y):a7 aO (MD []) 21 [.agg (a6 t v1 v2).toArray,al d,G] W0 (fun v w'=>∃ (v4:Value) (vW:ba) (v6:Value) (vA:ba) (v8:Value) (zX:ba),v = .tuple #[.agg (a6 y.1 v4 v6).toArray,v8,al y.2.2]∧az ab (dT T [aQ v4 vW,ah v6 vA,ax v8 zX]) w' vW y.1.Inputs∧az aa (dT T [aQ v4 vW,ah v6 vA,ax v8 zX]) w' vA y.1.Records∧az ac (dT T [aQ v4 vW,ah v6 vA,ax v8 zX]) w' zX y.2.1∧lK W0 w' [] [aQ v4 vW,ah v6 vA,ax v8 zX]):=by
 refine eL (c:=_) Tryz.func21 rfl T 62 Tryz.ntmps21 hT rfl hD fun a hS=>?_;replace hS:=(((hS.fact br hLv).fS bs).fS bt).fS c0;unfold nS at hM;refine am hS fun a hS=>?_;refine kb hS fun c3 cl a w hk hS=>?_;refine ka hS lx fun l co a w hk hS=>?_;refine am hS fun a hS=>?_;refine ay ?_;refine am hS fun a hS=>?_;obtain⟨d6,ak,hM⟩:=bd hM;refine kc hS F5 (nr _ _ hS.dlt (hS.get 3 rfl) t _ _ (hS.get 2 rfl) (hS.get 1 rfl) _ ak) fun _ w hR a hk hA=>?_;obtain rfl:=hR;have hS:=ce hA;refine am hS fun a hS=>?_;rcases cd hM with⟨b1,hM⟩|⟨b1,hM⟩
 ·refine am hS fun a hS=>?_;refine qy hS (bp (ps:=[]) hS A0 lx rfl (us:=[]) trivial (ws:=[al 0,.slice none 0 0,.slice none 0 0]) rfl) fun a hS=>?_;refine go hS fun a w hS=>?_;replace hS:=((hS.nilRow ab 75 (by decide)).nilRow aa 33 (by decide)).nilRow ac 31 (by decide);cases hM
  refine aG hS Tryz.results21 (bh hS rfl 3 rfl eZ rfl (fun h=>by cases h) (aw hS rfl (aw hS rfl aF))) ?_;have hZ:=hS.sl [2,1,0] [2,1,0];exact⟨(.slice none 0 0),[],(.slice none 0 0),[],(.slice none 0 0),[],rfl,(hZ.get 0 rfl),(hZ.get 1 rfl),(hZ.get 2 rfl),hZ.dnew⟩
 refine am hS fun a hS=>?_;refine jg ?_;refine am hS fun a hS=>?_;rcases cd hM with⟨b2,hM⟩|⟨b2,hM⟩
 ·refine am hS fun a hS=>?_;refine qy hS (bp (ps:=[]) hS A0 lx rfl (us:=[]) trivial (ws:=[al 0,.slice none 0 0,.slice none 0 0]) rfl) fun a hS=>?_;refine go hS fun a w hS=>?_;replace hS:=((hS.nilRow ab 75 (by decide)).nilRow aa 33 (by decide)).nilRow ac 31 (by decide);cases hM
  refine aG hS Tryz.results21 (bh hS rfl 3 rfl eZ rfl (fun h=>by cases h) (aw hS rfl (aw hS rfl aF))) ?_;have hZ:=hS.sl [2,1,0] [2,1,0];exact⟨(.slice none 0 0),[],(.slice none 0 0),[],(.slice none 0 0),[],rfl,(hZ.get 0 rfl),(hZ.get 1 rfl),(hZ.get 2 rfl),hZ.dnew⟩
 refine am hS fun a hS=>?_;rcases cd hM with⟨b3,hM⟩|⟨b3,hM⟩
 ·refine am hS fun a hS=>?_;refine qy hS (bp (ps:=[]) hS A0 lx rfl (us:=[]) trivial (ws:=[al 0,.slice none 0 0,.slice none 0 0]) rfl) fun a hS=>?_;refine go hS fun a w hS=>?_;replace hS:=((hS.nilRow ab 75 (by decide)).nilRow aa 33 (by decide)).nilRow ac 31 (by decide);cases hM
  refine aG hS Tryz.results21 (bh hS rfl 3 rfl eZ rfl (fun h=>by cases h) (aw hS rfl (aw hS rfl aF))) ?_;have hZ:=hS.sl [2,1,0] [2,1,0];exact⟨(.slice none 0 0),[],(.slice none 0 0),[],(.slice none 0 0),[],rfl,(hZ.get 0 rfl),(hZ.get 1 rfl),(hZ.get 2 rfl),hZ.dnew⟩
 refine am hS fun a hS=>?_;obtain⟨e,a4,hM⟩:=bd hM;refine kc hS wH (dz _ _ hS.dlt t _ _ (hS.get 2 rfl) (hS.get 1 rfl) _ a4) fun _ w hR a hk hA=>?_;obtain⟨j,f,dl,c9,he,W,X,bi⟩:=hR;obtain rfl:=he.symm;have hS:=xN hA W X bi;refine ka hS lx fun m cs a w hk hS=>?_;refine go hS fun a w hS=>?_;refine aK (J:=fun a w=>∃ (K:LK) (N:LR) (E:Value) (C:LV) (F:Value) (D:LV),St W0 (MD []) T 62 [(6,pt l 0),(9,pt m 0),(10,E)] [ax E C,.box l [al 0,.slice none 0 0,.slice none 0 0] 25,aQ j f,ah F D,.box m (a6 e j F) 25] [an ac C K,an ab f e.Inputs,an aa D N,br] a w∧mg e K N=some y) ?_ ?_
 ·skip;refine am hS fun a hS=>?_;obtain⟨p,a9,hM⟩:=bd hM;refine kc hS KZ (yf _ _ hS.dlt (hS.get 5 rfl) t.Records _ (hS.get 3 rfl) _ a9) fun _ w hR a hk hA=>?_;obtain⟨r,q,he,Y⟩:=hR;obtain rfl:=he.symm;have hS:=pz hA Y;refine am hS fun a hS=>?_;replace hS:=hS.nilRow ac 31 (by decide);obtain⟨r1,bl,hMo1⟩:=bd hM;refine bx _ (fun s a w=>∃ (o:LK) (n:Int) (i:LR) (A:Value) (u:LV) (B:Value) (z:LV),(o,n,i)=s∧St W0 (MD []) T 62 [(1,al d),(2,G),(6,pt l 0),(9,pt m 0),(10,A),(30,r),(31,al (p.length:Int)),(32,al n)] [ax A u,ah r q,.box l [al 0,.slice none 0 0,.slice none 0 0] 25,aQ j f,ah B z,.box m (a6 e j B) 25] [aL ac G g,an ac u o,an aa q p,an ab f e.Inputs,an aa z i,br] a w) bl ⟨_,_,_,_,_,_,_,rfl,hS.mt [0,1,5,3,4,2] [4,0,1,3,2,7]⟩ ?_;rintro s a w f1 ⟨o,n,i,A,u,B,z,rfl,hS⟩ hM hf1;have hM:mh d g p o n i=some f1:=hM;unfold mh at hM;refine am hS fun a hS=>?_;refine ay ?_;rcases cd hM with⟨b4,hM⟩|⟨b4,hM⟩
  ·refine am hS fun a hS=>?_;refine aK (J:=fun a w=>∃ (L:LK) (O:LR) (P:Value) (H:LV) (Q:Value) (I:LV),St W0 (MD []) T 62 [(1,al d),(2,G),(6,pt l 0),(9,pt m 0),(10,P),(30,r),(31,al (p.length:Int)),(32,al n)] [ax P H,ah r q,.box l [al 0,.slice none 0 0,.slice none 0 0] 25,aQ j f,ah Q I,.box m (a6 e j Q) 25] [aL ac G g,an ac H L,an aa q p,an ab f e.Inputs,an aa I O,br] a w∧jS n L O=some f1) ?_ ?_
   ·skip;refine am hS fun a hS=>?_;obtain⟨b,a3,hM⟩:=bd hM;refine wl rfl (c7 (R:=aa) hS dW bX rfl rfl 1 rfl 2 rfl a3 rfl fun c4 d0 d1 ca b5 b6 b8 a hS=>?_);obtain⟨S,rfl,av⟩:=b5;replace hS:=hS.fS av;refine qy hS (bq (k:=0) hS bX 1 rfl b6 b8 rfl id (us:=(aE b S)) rfl rfl (fun h=>by cases h)) fun a hS=>?_;refine ka hS dD fun U cv a w hk hS=>?_;refine go hS fun a w hS=>?_;refine aK (J:=fun a w=>∃ (M:Bool),St W0 (MD []) T 62 [(1,al d),(2,G),(6,pt l 0),(9,pt m 0),(10,A),(12,pt U 0),(30,r),(31,al (p.length:Int)),(32,al n),(47,.bool M)] [ax A u,ah r q,.box l [al 0,.slice none 0 0,.slice none 0 0] 25,aQ j f,ah B z,.box m (a6 e j B) 25,.box U (aE b S) 33] [aL ac G g,an ac u o,an aa q p,an ab f e.Inputs,an aa z i,aL ac S b.Reads,br] a w∧gU o n i b M=some f1) ?_ ?_
    ·skip;refine am hS fun a hS=>?_;have hL:=hS;replace hL:=hL.freeze (R:=aa) 5 rfl 5 rfl;obtain⟨d3,af,hM⟩:=bd hM;refine kc hS KQ (ye _ _ hL.dlt i _ (hL.get 0 rfl) _ af) fun _ w hR a hk hA=>?_;obtain rfl:=hR;have hS:=ce hA;refine am hS fun a hS=>?_;rcases cd hM with⟨V,hM⟩|⟨V,hM⟩
     ·refine am hS fun a hS=>?_;obtain⟨d4,ag,hM⟩:=bd hM;refine wg hS rfl rfl rfl V (bz hS H2 rfl rfl (rZ _ _ hS.dlt g b.Key _ (hS.get 1 rfl) _ ag) fun _ w hR a hk hA=>?_);obtain rfl:=hR;have hS:=ce hA;exact fz
     exact fz
    rintro a w ⟨M,hS,hM⟩;unfold gU at hM;rcases cd hM with⟨b9,hM⟩|⟨b9,hM⟩
    ·refine am hS fun a hS=>?_;replace hS:=hS.freeze (R:=aa) 4 rfl 4 rfl;obtain⟨d2,a5,hM⟩:=bd hM;refine kc hS JP (uo _ _ hS.dlt i b.Key _ (hS.get 0 rfl) _ a5) fun _ w hR a hk hA=>?_;obtain⟨dn,ch,he,Z⟩:=hR;obtain rfl:=he.symm;have hS:=pz hA Z;refine go hS fun a w hS=>?_;refine wl rfl (bj (ps:=[(0,.tmp 56)]) hS gh fE (zl:=[al 0,aZ bW]) (by kernel_rfl) rfl (us:=[(aV b.Key)]) ⟨rfl,trivial⟩ (ws:=(aV b.Key)) rfl rfl rfl rfl fun c5 a w hk hS=>?_);replace hS:=(hS.lit (R:=ac) (us:=(aV b.Key)) (xs:=[b.Key]) 0 rfl (by decide) (az.one_ (R:=ac) (x:=b.Key) rfl) rfl rfl).freeze (R:=ac) 0 rfl 0 rfl;obtain⟨bb,hM⟩:=bm hM;refine wl rfl (bB (R:=ac) (xs:=o) (ys:=[b.Key]) hS gh (by decide) (by decide) rfl rfl 1 rfl 5 rfl 0 rfl bb rfl fun ds ck a w hk hS=>?_);exact fz
    refine am hS fun a hS=>?_;exact⟨_,_,_,_,_,_,hS.mt [0,1,2,3,4,5] [0,1,2,3,4,6],hM⟩
   rintro a w ⟨L,O,P,H,Q,I,hS,hM⟩;unfold jS at hM;refine am hS fun a hS=>?_;exact⟨_,(bO hM).symm,_,_,_,_,_,_,_,rfl,hS.mt [0,1,2,3,4,5] [0,1,2,3,4,5]⟩
  refine am hS fun a hS=>?_;cases hM
  have hr:=hf1 _ rfl;subst hr;have hM:mg e o i=some y:=hMo1;exact⟨_,_,_,_,_,_,hS.mt [0,2,3,4,5] [1,3,4,5],hM⟩
 rintro a w ⟨K,N,E,C,F,D,hS,hM⟩;unfold mg at hM;refine go hS fun a w hS=>?_;cases hM
 refine aG hS Tryz.results21 (bh hS rfl 1 rfl eZ rfl (fun h=>by cases h) (aw hS rfl (aw hS rfl aF))) ?_;have hZ:=hS.sl [2,3,0] [1,2,0];exact⟨j,f,F,D,E,C,rfl,(hZ.get 0 rfl),(hZ.get 1 rfl),(hZ.get 2 rfl),hZ.dnew⟩
end
end
section
open Go.RowKit
open Go.Lib hiding intOf
section
variable {l:List aI} {b:ai} {V:Nat→ByteArray}
structure BE (l:List aI) (b:ai) (N:Nat) (t:cI):Prop where
 rules:t.Rules=l
 lv:tn l b t.Base
 goals:∀ k∈t.Goals,kB l k
 ng:t.Goals.length≤32
 fr:∀ f∈t.Stack,BA l f
 len:t.Stack.length≤N
 ran:t.Ran.length≤N
theorem wK (hR:a8 l) {N:Nat} (hN:N≤100) {t:cI} (h:BE l b N t):lr t=some t:=by
 have hl:=hR.high;have h1:=h.ng;have h2:=h.len;have h3:=h.ran;unfold lr;rw [h.rules,y9 hR,aD,tu (h.lv.ok.rm hl).1 (h.lv.ok.rm hl).2.1,aD,ey (by simp; omega),s3 h.fr (by omega),ey (by simp; omega)];rw [← h.rules]; rfl
theorem BE.le {N M:Nat} {t:cI} (h:BE l b N t) (hm:N≤M):BE l b M t:=⟨h.rules,h.lv,h.goals,h.ng,h.fr,cH h.len hm,cH h.ran hm⟩
theorem Fx (hR:a8 l) (hb:dt l b) {goals:List ae} (hg:∀ k∈goals,kB l k) (hn:goals.length≤32):∃ t,nQ l b goals=some (t,0)∧BE l b 0 t∧t.Base=b:=by
 have ht:BE l b 0 (cI.mk l b goals [] []):=⟨rfl,⟨hb,rfl,rfl⟩,hg,hn,fun f hf=>absurd hf mA,cM _,cM _⟩;refine⟨_,?_,ht,rfl⟩;unfold nQ;rw [y4 hR hb hg hn,aD];simp only [show ((0:Int) != 0)=false from rfl,cond_false];rw [wK hR (by omega) ht]; rfl
theorem xh {recs:List ad} (h:Rm recs.length) (k:ae):mP recs k=some (recs.filter fun x=>!db x.Key k):=by
 unfold Rm at h;unfold mP nq;refine fo (d7 (xs:=recs) (fun i=>((recs.take i).filter fun x=>!db x.Key k,(i:Int))) rfl (r:=recs.filter fun x=>!db x.Key k) (fun i x hx=>?_) ?_) rfl
 ·have hlt:=aW hx;have hlen:=rB (fun x:ad=>!db x.Key k) recs i;unfold kO kN;dsimp only;rw [dlt hlt,cond_true,bf,hx,aD,cR (by omega),bM hx,lI];show cond (!db x.Key k) _ _=_;cases e:db x.Key k with
  | true=>simp [e]
  | false =>
   rw [nY,cond_true,ey (by simp only [g9,rI]; omega)];simp [e,gd]
 ·unfold kO;dsimp only;rw [bS,lJ]; rfl
theorem dt.filter (h:dt l b) (p:ad→Bool):dt l (ai.mk b.Revision b.Inputs (b.Records.filter p)) :=
 ⟨h.rev,h.ins,h.insA,fun r hr=>h.recs r (gc.1 hr).1,List.Pairwise.sublist List.filter_sublist h.recsA⟩
end
end
section
open Go.RowKit
open Go.Lib hiding intOf
def tT (l:List aT):Prop:=l.Pairwise fun a b=>cq a.Key b.Key<0
def rM (l:List aT) (r:aT):List aT:=(l.filter fun x=>decide (cq x.Key r.Key<0))++r::(l.filter fun x=>decide (0<cq x.Key r.Key))
theorem ug {l:List aT} {r x:aT}:x∈rM l r↔x=r∨(x∈l∧x.Key≠r.Key):=by
 unfold rM;rw [cg,dQ,gc,gc];simp only [decide_eq_true_eq];constructor
 ·rintro (⟨h,h1⟩ | h | ⟨h,h1⟩)
  ·exact .inr ⟨h,oq h1⟩
  ·exact .inl h
  ·exact .inr ⟨h,fun e=>by rw [e,sH] at h1; omega⟩
 ·rintro (h | ⟨h,h1⟩)
  ·exact .inr (.inl h)
  ·rcases qh x.Key r.Key with h2 | h2 | h2
   ·exact .inl ⟨h,h2⟩
   ·exact absurd h2 h1
   ·exact .inr (.inr ⟨h,nF.2 h2⟩)
theorem A1 {l:List aT} (h:tT l) (r:aT):tT (rM l r):=by
 unfold tT rM;rw [ti];refine⟨CY _ h,vt.2 ⟨fun x hx=>?_,CY _ h⟩,fun x hx y hy=>?_⟩
 ·have:=(gc.1 hx).2;simp only [decide_eq_true_eq] at this;exact nF.1 this
 ·have h1:=(gc.1 hx).2;simp only [decide_eq_true_eq] at h1;rcases dQ.1 hy with rfl | hy
  ·exact h1
  ·have h2:=(gc.1 hy).2;simp only [decide_eq_true_eq] at h2;exact mJ h1 (nF.1 h2)
theorem D9 {l:List aT} (h:tT l) {x y:aT} (hx:x∈l) (hy:y∈l) (e:x.Key=y.Key):x=y:=by
 induction l with
 | nil=>cases hx
 | cons z m ih =>
  have h':=vt.1 h;rcases dQ.1 hx with e1 | h1
  ·rcases dQ.1 hy with e2 | h2
   ·rw [e1,e2]
   ·subst e1; exact absurd e (oq (h'.1 y h2))
  ·rcases dQ.1 hy with e2 | h2
   ·subst e2; exact absurd e.symm (oq (h'.1 x h1))
   ·exact ih h'.2 h1 h2
theorem DI {l:List aT} {r:aT} (h:tT l) (hl:Rm l.length) {u:ai} (hrev:IntKind.i64.wrap (u.Revision+1)=r.Changed) (g:Int) :
  ((loop (fun s:(List aT)×Bool×Int=>fg u l (dk.mk r.Key r.Value) s.1 s.2.1 s.2.2) (([]:List aT),false,0)).bind fun q=>eh u g (dk.mk r.Key r.Value) q.1 q.2)=eg g (rM l r):=by
 unfold Rm at hl;have hpl:∀ i,((l.take i).filter fun x=>decide (cq x.Key r.Key<0)).length+((l.take i).filter fun x=>decide (0<cq x.Key r.Key)).length≤l.length:=fun i=>by
  have h1:∀ m:List aT,(m.filter fun x=>decide (cq x.Key r.Key<0)).length+(m.filter fun x=>decide (0<cq x.Key r.Key)).length≤m.length:=by
   intro m
   induction m with
   | nil=>simp
   | cons y m ih =>
    by_cases a:cq y.Key r.Key<0
    ·rw [xD (by simpa using a),tj (by simp; omega)]; simp only [g9]; omega
    ·by_cases b:0<cq y.Key r.Key
     ·rw [tj (by simpa using a),xD (by simpa using b)]; simp only [g9]; omega
     ·rw [tj (by simpa using a),tj (by simpa using b)]; simp only [g9]; omega
  have:=h1 (l.take i);rw [il] at this; omega
 have key:Ok ((loop (fun s:(List aT)×Bool×Int=>fg u l (dk.mk r.Key r.Value) s.1 s.2.1 s.2.2) (([]:List aT),false,0)).bind fun q=>eh u g (dk.mk r.Key r.Value) q.1 q.2) fun y=>eg g (rM l r)=some y:=by
  refine bK (fun n t=>n≤l.length∧t.2.2=(n:Int)∧((t.1=l.take n∧t.2.1=false∧∀ x∈l.take n,cq x.Key r.Key<0)∨(t.1=rM (l.take n) r∧t.2.1=true∧∃ x∈l.take n,¬ cq x.Key r.Key<0)))
   (fun t=>(t.1=l∧t.2=false∧∀ x∈l,cq x.Key r.Key<0)∨(t.1=rM l r∧t.2=true)) l.length ⟨ez _,rfl,.inl ⟨rfl,rfl,by simp⟩⟩ (fun n t hn hI=>?_) (fun t ht=>?_)
  ·obtain⟨out,put,i⟩:=t;obtain⟨_,h1,h2⟩:=hI;dsimp only at h1 h2;subst h1;unfold fg;dsimp only;by_cases hi:n<l.length
   ·have hx:l[n]? = some l[n]:=bC hi;obtain⟨x,hxe⟩:∃ x,x=l[n]:=⟨_,rfl⟩;rw [← hxe] at hx;rw [dlt hi,cond_true,bf,hx,aD,mW,aD];have tk:=bM hx;have hle:=hpl n;rcases h2 with⟨rfl,rfl,h3⟩|⟨rfl,rfl,y,hy,h3⟩
    ·have e0:((l.take n).filter fun x=>decide (cq x.Key r.Key<0))=l.take n:=vM.2 fun x hx=>by simpa using h3 x hx
     have e1:((l.take n).filter fun x=>decide (0<cq x.Key r.Key))=[]:=CZ.2 fun x hx=>by have:=h3 x hx; simp; omega
     rcases oU x.Key r.Key with hc | hc | hc
     ·rw [hc];unfold em ek ej;dsimp only;simp only [hrev];rw [show bL ((l.take n).length+[x].length)=true from ey (by simp; omega),cR (by omega)];refine aq ⟨hi,hi,rfl,.inl ⟨tk.symm,rfl,fun z hz=>?_⟩⟩;rw [tk] at hz;rcases cg.1 hz with hz | hz
      ·exact h3 z hz
      ·simp only [dQ,mA,or_false] at hz; subst hz; omega
     ·rw [hc];unfold em ek ej;dsimp only;simp only [hrev];rw [cR (by omega)];rw [show bL ((l.take n).length+[r].length)=true from ey (by simp; omega)];refine aq ⟨hi,hi,rfl,.inr ⟨?_,rfl,x,by rw [tk]; simp,by omega⟩⟩;unfold rM;rw [tk,lI,lI,e0,e1];simp [hc]
     ·rw [hc];unfold em ek ej;dsimp only;simp only [hrev];rw [cR (by omega)];rw [show bL ((l.take n).length+[r].length)=true from ey (by simp; omega),show bL ((l.take n++[r]).length+[x].length)=true from ey (by simp; omega)];refine aq ⟨hi,hi,rfl,.inr ⟨?_,rfl,x,by rw [tk]; simp,by omega⟩⟩;unfold rM;rw [tk,lI,lI,e0,e1];simp [hc]
    ·have hyx:cq y.Key x.Key<0:=by
      obtain⟨j,hj⟩:=gZ.1 hy;rw [pn] at hj;split at hj
      ·rename_i hjn;obtain⟨q1,q2⟩:=bD.1 hj;have:=gw.1 h j n q1 hi hjn;rw [q2,← hxe] at this; exact this
      ·cases hj
     have hc:0<cq x.Key r.Key:=by
      rw [nF];exact s5 (b:=y.Key) h3 hyx
     have hc1:cq x.Key r.Key=1:=by rcases oU x.Key r.Key with h | h | h <;> omega
     rw [hc1];unfold em ek ej;dsimp only;simp only [hrev];rw [cR (by omega),show bL ((rM (l.take n) r).length+[x].length)=true from ey (by unfold rM; simp only [cW,g9,rI]; omega)];refine aq ⟨hi,hi,rfl,.inr ⟨?_,rfl,y,by rw [tk]; exact gv _ hy,h3⟩⟩;unfold rM;rw [tk,lI,lI];simp [hc1]
   ·have hn2:n=l.length:=by omega
    rw [hn2,bS,cond_false];rw [hn2,lJ] at h2;refine aq ?_;rcases h2 with⟨a,b,c⟩|⟨a,b,c⟩
    ·exact .inl ⟨a,b,c⟩
    ·exact .inr ⟨a,b⟩
  ·obtain⟨out,put⟩:=t;dsimp only at ht ⊢;unfold eh;dsimp only;simp only [hrev];rcases ht with⟨rfl,rfl,h3⟩|⟨rfl,rfl⟩
   ·simp only [nY,cond_true];rw [show bL (out.length+[r].length)=true from ey (by simp; omega)];refine⟨_,rfl,?_⟩;unfold rM;rw [vM.2 fun x hx=>by simpa using h3 x hx,CZ.2 fun x hx=>by have:=h3 x hx; simp; omega];rfl
   ·exact⟨_,rfl,rfl⟩
 obtain⟨y,e,e2⟩:=key;exact e.trans e2.symm
end
section
set_option maxRecDepth 100000
set_option maxHeartbeats 4000000
open Go.RowKit
noncomputable section
def nc (b:Int) (c:LI) (d:LR) (e:LN) (f:Int):Option (ai×aY):=some (((ai.mk b c d),(aY.mk e f)))
def c8 (g:Int) (e:LN) (f:Int) (b:Int) (c:LI) (d:LR):Option (Fl (Int×LN×Int×Int×LI×LR) (Int×LI×LR×LN×Int)):=some (.go (IntKind.i64.wrap (g-1),e,f,b,c,d))
def ne (g:Int) (h:Int) (i:LI) (j:LR) (k:Int) (e:LN) (f:Int) (l:LU) (m:Int) (n:LI) (o:LR) (p:LK) (q:LF) (r:LK):Option (Fl (Int×LN×Int×Int×LI×LR) (Int×LI×LR×LN×Int)):=cond (k==0) ((bI (aY.mk e f) 30).bind fun c=>(qo vv (cI.mk l (ai.mk m n o) p q r) c.1).bind fun b=>(mc (cI.mk b.1.Rules (ai.mk b.1.Base.Revision b.1.Base.Inputs b.1.Base.Records) b.1.Goals b.1.Stack b.1.Ran)).bind fun d=>c8 g c.2.L c.2.At d.Revision d.Inputs d.Records) (c8 g e f h i j)
def gj (d:LU) (h:Int) (e:Int) (f:LI) (g:LR) (b:(Int×aY)) (q:Bool):Option (Fl (Int×LN×Int×Int×LI×LR) (Int×LI×LR×LN×Int)):=cond q ((ip (aY.mk b.2.L b.2.At) 2).bind fun j=>(jE (ai.mk e f g) j.1).bind fun k=>c8 h j.2.L j.2.At k.1.Revision k.1.Inputs k.1.Records) (cond (b.1==3) ((lm (aY.mk b.2.L b.2.At) d 2).bind fun l=>(nQ d (ai.mk e f g) l.1).bind fun c=>ne h e f g c.2 l.2.L l.2.At c.1.Rules c.1.Base.Revision c.1.Base.Inputs c.1.Base.Records c.1.Goals c.1.Stack c.1.Ran) (cond (b.1==4) ((bI (aY.mk b.2.L b.2.At) 3).bind fun i=>cond (i.1==0) ((bI (aY.mk i.2.L i.2.At) 200).bind fun m=>(nS (ai.mk e f g) m.1 ([])).bind fun n=>c8 h m.2.L m.2.At n.1.Revision n.1.Inputs n.1.Records) (c8 h i.2.L i.2.At e f g)) ((lm (aY.mk b.2.L b.2.At) d 2).bind fun o=>(iY uu d (ai.mk e f g) o.1).bind fun p=>c8 h o.2.L o.2.At p.1.Revision p.1.Inputs p.1.Records)))
def nh (c:LU) (g:Int) (h:LN) (i:Int) (d:Int) (e:LI) (f:LR):Option (Fl (Int×LN×Int×Int×LI×LR) (Int×LI×LR×LN×Int)):=cond (decide ((0:Int)<g)) ((bI (aY.mk h i) 8).bind fun b=>cond (b.1==0) (gj c g d e f b (b.1==0)) (cond (b.1==1) (gj c g d e f b (b.1==1)) (gj c g d e f b (b.1==2)))) (some (.out (d,e,f,h,i)))
def oY (f:aY) (d:LU) (c:ai) (e:Int):Option (ai×aY):=(bI f (IntKind.i64.wrap (e+1))).bind fun b=>(loop (fun s:Int×LN×Int×Int×LI×LR=>nh d s.1 s.2.1 s.2.2.1 s.2.2.2.1 s.2.2.2.2.1 s.2.2.2.2.2) (b.1,b.2.L,b.2.At,c.Revision,c.Inputs,c.Records)).bind fun r=>nc r.1 r.2.1 r.2.2.1 r.2.2.2.1 r.2.2.2.2
theorem zz (T:Nat→Prop) (W0:World) (hT:TW T W0) (f:aY) (b:LU) (F:ai) (b8:Int) (e:Value) (x:Value) (v4:Value) (v5:Value) (g:Nat) (le:W0.heap[g]? = some (.cells (be f e).toArray 73 (0,0))) (i5:¬ T g) (ll:aC (aR.int .i64) (dT T [.box g (be f e) 73]) W0 e f.L) (ls:aC ar (dT T [.box g (be f e) 73]) W0 x b) (lt:aC ab (dT T [.box g (be f e) 73]) W0 v4 F.Inputs) (lv:aC aa (dT T [.box g (be f e) 73]) W0 v5 F.Records) (hLv:dc (dT T [.box g (be f e) 73]) W0) (P0:Nat→Prop) (e6:∀ k,(fun k=>k=g) k∨W0.heap.size≤k→P0 k) (i9:(mw P0 [aL ab v4 F.Inputs,aL (aR.int .i64) e f.L,aL ar x b] aa 33 v5 F.Records).p (dT T [.box g (be f e) 73]) W0) (y:ai×aY) (hM:oY f b F b8=some y):a7 aO (fun k=>k=g) 57 [pt g 0,x,.agg (a6 F v4 v5).toArray,al b8] W0 (fun v w'=>∃ (v6:Value) (v7:Value) (v8:Value),v = .agg (a6 y.1 v6 v7).toArray∧aC ab (dT T [.box g (be y.2 v8) 73]) w' v6 y.1.Inputs∧aC aa (dT T [.box g (be y.2 v8) 73]) w' v7 y.1.Records∧w'.heap[g]? = some (.cells (be y.2 v8).toArray 73 (0,0))∧aC (aR.int .i64) (dT T [.box g (be y.2 v8) 73]) w' v8 y.2.L∧e=v8∧(mw P0 [aL ab v6 y.1.Inputs,aL (aR.int .i64) e f.L,aL ar x b] aa 33 v7 y.1.Records).p (dT T [.box g (be y.2 v8) 73]) w'):=by
 refine qG (c:=_) Tryz.func57 rfl T 80 Tryz.ntmps57 hT rfl le i5 fun a hS=>?_;replace hS:=(((((hS.fact (mw P0 [aL ab v4 F.Inputs,aL (aR.int .i64) e f.L,aL ar x b] aa 33 v5 F.Records) i9).fact br hLv).fS ll).fS ls).fS lt).fS lv;unfold oY at hM;refine am hS fun a hS=>?_;refine kb hS fun u no a w hk hS=>?_;refine ka hS lx fun z np a w hk hS=>?_;refine am hS fun a hS=>?_;refine aK (J:=fun a w=>∃ (c3:Int) (a1:LI) (a2:LR) (d1:LN) (d2:Int) (S:Value) (U:Value),St W0 (fun k=>k=g) T 80 [(6,pt u 0),(8,pt z 0)] [.box u [al c3,S,U] 25,.box z [al 0,.slice none 0 0,.slice none 0 0] 25,.box g [e,al d2] 73] [aL ab S a1,aL aa U a2,aL (aR.int .i64) e d1,aL (aR.int .i64) e f.L,aL ar x b,br,mw P0 [aL ab S a1,aL (aR.int .i64) e f.L,aL ar x b] aa 33 U a2] a w∧nc c3 a1 a2 d1 d2=some y) ?_ ?_
 ·skip;refine am hS fun a hS=>?_;obtain⟨jb,ht,hM⟩:=bd hM;refine wl rfl (cj hS lM rfl rfl 2 rfl (bo _ _ (hS.drop 2).dlt f (IntKind.i64.wrap (b8+1)) _ _ (hS.boxRow 2 rfl) (hS.notin 2 rfl) (aC.lent (i:=2) rfl (hS.get 3 rfl)) _ ht) fun _ w hR hk=>?_);obtain⟨o2,he,hrow,ex,ag⟩:=hR;obtain rfl:=he.symm;subst ag;refine⟨(be jb.2 e),hrow,fun a hS=>?_⟩;replace hS:=hS.fS (aC.back (i:=2) rfl ex);refine am hS fun a hS=>?_;obtain⟨r1,lg,hMo1⟩:=bd hM;refine bx _ (fun s a w=>∃ (A:Int) (C:LN) (D:Int) (d:Int) (m:LI) (n:LR) (o:Value) (q:Value),(A,C,D,d,m,n)=s∧St W0 (fun k=>k=g) T 80 [(0,pt g 0),(1,x),(6,pt u 0),(8,pt z 0),(9,al A)] [.box g [e,al D] 73,.box u [al d,o,q] 25,.box z [al 0,.slice none 0 0,.slice none 0 0] 25] [aL ar x b,aL (aR.int .i64) e C,aL ab o m,aL aa q n,aL (aR.int .i64) e f.L,br,mw P0 [aL ab o m,aL (aR.int .i64) e f.L,aL ar x b] aa 33 q n] a w) lg ⟨_,_,_,_,_,_,_,_,rfl,hS.mt [2,1,0] [3,0,2,1,4,5,6]⟩ ?_;rintro s a w f1 ⟨A,C,D,d,m,n,o,q,rfl,hS⟩ hM hf1;have hM:nh b A C D d m n=some f1:=hM;unfold nh at hM;refine ay ?_;refine am hS fun a hS=>?_;rcases cd hM with⟨hH,hM⟩|⟨hH,hM⟩
  ·refine am hS fun a hS=>?_;refine aK (J:=fun a w=>∃ (d3:LN) (d4:Int) (c4:Int) (a3:LI) (a4:LR) (c0:Value) (c1:Value),St W0 (fun k=>k=g) T 80 [(0,pt g 0),(1,x),(6,pt u 0),(8,pt z 0),(9,al A)] [.box g [e,al d4] 73,.box u [al c4,c0,c1] 25,.box z [al 0,.slice none 0 0,.slice none 0 0] 25] [aL ar x b,aL (aR.int .i64) e d3,aL ab c0 a3,aL aa c1 a4,aL (aR.int .i64) e f.L,br,mw P0 [aL ab c0 a3,aL (aR.int .i64) e f.L,aL ar x b] aa 33 c1 a4] a w∧c8 A d3 d4 c4 a3 a4=some f1) ?_ ?_
   ·skip;refine am hS fun a hS=>?_;obtain⟨t,hj,hM⟩:=bd hM;refine wl rfl (cj hS lM rfl rfl 0 rfl (bo _ _ (hS.drop 0).dlt (aY.mk C D) 8 _ _ (hS.boxRow 0 rfl) (hS.notin 0 rfl) (aC.lent (i:=0) rfl (hS.get 1 rfl)) _ hj) fun _ w hR hk=>?_);obtain⟨o3,he,hrow,f2,ak⟩:=hR;obtain rfl:=he.symm;subst ak;refine⟨(be t.2 e),hrow,fun a hS=>?_⟩;replace hS:=hS.fS (aC.back (i:=0) rfl f2);refine am hS fun a hS=>?_;refine aK (J:=fun a w=>∃ (dl:Bool),St W0 (fun k=>k=g) T 80 [(0,pt g 0),(1,x),(6,pt u 0),(8,pt z 0),(9,al A),(21,al t.1),(32,.bool dl)] [.box g (be t.2 e) 73,.box u [al d,o,q] 25,.box z [al 0,.slice none 0 0,.slice none 0 0] 25] [aL ar x b,aL (aR.int .i64) e t.2.L,aL ab o m,aL aa q n,aL (aR.int .i64) e f.L,br,mw P0 [aL ab o m,aL (aR.int .i64) e f.L,aL ar x b] aa 33 q n] a w∧gj b A d m n t dl=some f1) ?_ ?_
    ·exact fz
    rintro a w ⟨dl,hS,hM⟩;unfold gj at hM;rcases cd hM with⟨hI,hM⟩|⟨hI,hM⟩
    ·refine am hS fun a hS=>?_;refine dr [(2,.blk (some g)),(7,.blk (some u))] hS fun w hQ hS=>?_;refine dy (l:=[.blk (some g)]) 0 (v:=.agg #[al d,o,q]) rfl (by kernel_rfl) (by kernel_rfl) (by kernel_rfl) (by kernel_rfl) hQ hS (dh hS rfl eZ 1 rfl (gA hS 1 rfl rfl 0 rfl rfl (by decide) bn) (us:=[al d,o,q]) rfl rfl (fun h=>by cases h)) rfl rfl rfl fun a hS=>?_;refine gE [1] hS fun a hS=>?_;obtain⟨ha,hl,hM⟩:=bd hM;refine e1 2 (lS hS H1 rfl rfl 0 rfl (oX _ _ (hS.drop 0).dlt (aY.mk t.2.L t.2.At) 2 _ _ (hS.boxRow 0 rfl) (hS.notin 0 rfl) (aC.lent (i:=0) rfl (hS.get 1 rfl)) (br.keep (hS.get 5 rfl) (aj _ _) (fun k hk=>.inl ((nE (i:=0) rfl k).1 hk))) _ hl) fun _ w hR hk=>?_);obtain⟨e0,c5,of,he,⟨eq,ed,f3⟩,hrow,f4,av⟩:=hR;obtain rfl:=he.symm;subst av;refine⟨(be ha.2 e),[gL e0 c5],hrow,jj ⟨eq,by decide⟩ ed,xa _,fun a hS=>⟨ij rfl hk hU,?_⟩⟩;replace hS:=((hS.fR (f3.keep (aj _ _) (Nw.back2 (i:=0) rfl [gL e0 c5] _))).fS (f4.sub (Nw.back2 (i:=0) rfl [gL e0 c5] _))).freeze (R:=bc) 0 rfl 1 rfl;obtain⟨ih,hm,hM⟩:=bd hM;refine ec 3 hS H0 (pT _ _ hS.dlt (hS.get 8 rfl) (ai.mk d m n) ha.1 _ _ _ (hS.get 5 rfl) (hS.get 6 rfl) (hS.get 0 rfl) _ hm) fun _ w hR a hk hA=>?_;obtain⟨js,m0,oi,m1,he,f5,fd,c2⟩:=hR;obtain rfl:=he.symm;have hS:=xN hA f5 fd c2;refine gE [4,5,6] hS fun a hS=>?_;refine es 7 hS fun w hS=>?_;refine eD ?_;replace hS:=(hS.freeze (R:=ab) 0 rfl 1 rfl).freezeFr (P:=P0) (R:=aa) e6 [aL ab js ih.1.Inputs,aL (aR.int .i64) e f.L,aL ar x b] ⟨⟨0,rfl⟩,⟨10,rfl⟩,⟨6,rfl⟩,trivial⟩ 0 rfl 1 rfl;exact⟨_,_,_,_,_,_,_,hS.mt [0,1,2] [8,6,2,0,12,13,1],hM⟩
    refine am hS fun a hS=>?_;rcases cd hM with⟨hK,hM⟩|⟨hK,hM⟩
    ·refine am hS fun a hS=>?_;refine aK (J:=fun a w=>∃ (d6:Int) (a9:LN) (af:Int) (b9:LU) (E:Int) (bb:LI) (bi:LR) (bl:LK) (bs:LF) (bt:LK) (a5:Nat) (V:Value) (c9:LV) (W:Value) (ca:LV) (X:Value) (ch:LV) (Y:Value) (ck:LV) (Z:Value) (cl:LV) (a0:Value) (co:LV),St W0 (fun k=>k=g) T 80 [(0,pt g 0),(1,x),(6,pt u 0),(8,pt z 0),(9,al A),(10,pt a5 0),(11,al d6)] [.box g [e,al af] 73,.box u [al d,o,q] 25,.box z [al 0,.slice none 0 0,.slice none 0 0] 25,bJ V c9,aQ W ca,ah X ch,ax Y ck,cV Z cl,ax a0 co,.box a5 [V,al E,W,X,Y,Z,a0] 122] [aL ar x b,aL (aR.int .i64) e a9,aL ab o m,aL aa q n,an ar c9 b9,an ab ca bb,an aa ch bi,an ac ck bl,an au cl bs,an ac co bt,aL (aR.int .i64) e f.L,br,mw P0 [aL ab o m,aL (aR.int .i64) e f.L,aL ar x b] aa 33 q n] a w∧ne A d m n d6 a9 af b9 E bb bi bl bs bt=some f1) ?_ ?_
     ·skip;obtain⟨N178,hf⟩:∃ N,N=w.heap.size:=⟨_,rfl⟩;replace hS:=hS.fact (Dc N178) (qB hf);refine dr [(4,.blk (some g)),(5,.bks []),(10,.new N178)] hS fun w hQ hS=>?_;refine gE [0] hS fun a hS=>?_;refine dy (l:=[.blk (some g)]) 1 (v:=.agg #[al d,o,q]) rfl (by kernel_rfl) (by kernel_rfl) (by kernel_rfl) (by kernel_rfl) hQ hS (dh hS rfl eZ 1 rfl (gA hS 1 rfl rfl 0 rfl rfl (by decide) bn) (us:=[al d,o,q]) rfl rfl (fun h=>by cases h)) rfl rfl rfl fun a hS=>?_;refine gE [2,3] hS fun a hS=>?_;obtain⟨Q,ea,hM⟩:=bd hM;refine dm (i:=4) (j:=9) rfl rfl (by kernel_rfl) rfl rfl ?_ ?_
      ·skip;skip;refine id (lS hS F7 rfl rfl 0 rfl (ou _ _ (hS.drop 0).dlt (aY.mk t.2.L t.2.At) b 2 _ _ _ (hS.boxRow 0 rfl) (hS.notin 0 rfl) (aC.lent (i:=0) rfl (hS.get 2 rfl)) (aC.lent (i:=0) rfl (hS.get 1 rfl)) (br.keep (hS.get 6 rfl) (aj _ _) (fun k hk=>.inl ((nE (i:=0) rfl k).1 hk))) _ ea) fun _ w hR hk=>?_);obtain⟨e2,cs,oj,he,⟨er,ei,fl⟩,hrow,fn,b2⟩:=hR;obtain rfl:=he.symm;subst b2;refine⟨(be Q.2 e),[ax e2 cs],hrow,jj ⟨er,by decide⟩ ei,xa _,fun a hS=>⟨ij rfl hk hU,?_⟩⟩;replace hS:=((hS.fR (fl.keep (aj _ _) (Nw.back2 (i:=0) rfl [ax e2 cs] _))).fS (fn.sub (Nw.back2 (i:=0) rfl [ax e2 cs] _))).freeze (R:=ac) 0 rfl 1 rfl;obtain⟨nv,eb,hM⟩:=bd hM;refine dm (i:=5) (j:=9) rfl rfl (by kernel_rfl) rfl rfl ?_ ?_
       ·skip;skip;replace hS:=hS.re [] [0,1,2];refine id (bv hS H9 rfl rfl (pY _ _ hS.dltD b (ai.mk d m n) Q.1 _ _ _ _ hS.dok (hS.getD 4 rfl) (hS.getD 6 rfl) (hS.getD 7 rfl) (hS.getD 0 rfl) (hS.getD 9 rfl) _ eb) fun _ w hR a hk hA=>⟨ij rfl hk pQ,?_⟩);obtain⟨ok,m2,op,m3,os,m4,p0,md,p1,ms,p2,mv,he,fr,fs,fM,g0,g1,g2,hN⟩:=hR;obtain rfl:=he.symm;have hS:=hA _ hN;replace hS:=(((((hS.fR (fr.keep (aj _ _) (ap _))).fR (fs.keep (aj _ _) (ap _))).fR (fM.keep (aj _ _) (ap _))).fR (g0.keep (aj _ _) (ap _))).fR (g1.keep (aj _ _) (ap _))).fR (g2.keep (aj _ _) (ap _));refine gE [6,7,8] hS fun a hS=>?_;have hP:=(hS.get 9 rfl:N178≤w.heap.size);refine e1 9 (cC hS sC rfl fun hx hV a w hk hS=>⟨fA (hk),?_⟩);refine cL 10 (.blk (some hx)) _ (by kernel_rfl) (lR (cH hP hV)) ?_;refine es 10 hS fun w hS=>?_;refine gE [11] hS fun a hS=>?_;refine eD ?_;exact⟨_,_,_,_,_,_,_,_,_,_,_,_,_,_,_,_,_,_,_,_,_,_,_,hS.mt [7,8,9,1,2,3,4,5,6,0] [10,7,12,13,5,4,3,2,1,0,14,15,16],hM⟩
       skip;have hW:=(hS.get 3 rfl:N178≤w.heap.size);refine id (cC hS sC rfl fun hy hX a w hk hS=>⟨fA (hk),?_⟩);refine cL 10 (.blk (some hy)) _ (by kernel_rfl) (lR (cH hW hX)) ?_;replace hS:=hS.re [] [0,1,2,3];refine e1 5 (bv hS H9 rfl rfl (pY _ _ hS.dltD b (ai.mk d m n) Q.1 _ _ _ _ hS.dok (hS.getD 4 rfl) (hS.getD 6 rfl) (hS.getD 7 rfl) (hS.getD 0 rfl) (hS.getD 9 rfl) _ eb) fun _ w hR a hk hA=>⟨ij rfl hk pQ,?_⟩);obtain⟨k0,hB,k1,hC,k2,hD,k3,hE,k4,hF,ks,hG,he,G,H,I,K,M,O,dn⟩:=hR;obtain rfl:=he.symm;have hS:=hA _ dn;replace hS:=(((((hS.fR (G.keep (aj _ _) (ap _))).fR (H.keep (aj _ _) (ap _))).fR (I.keep (aj _ _) (ap _))).fR (K.keep (aj _ _) (ap _))).fR (M.keep (aj _ _) (ap _))).fR (O.keep (aj _ _) (ap _));refine gE [6,7,8] hS fun a hS=>?_;refine es 10 hS fun w hS=>?_;refine gE [11] hS fun a hS=>?_;refine eD ?_;exact⟨_,_,_,_,_,_,_,_,_,_,_,_,_,_,_,_,_,_,_,_,_,_,_,hS.mt [7,8,9,0,1,2,3,4,5,6] [10,7,12,13,5,4,3,2,1,0,14,15,16],hM⟩
      skip;have hY:=(hS.get 0 rfl:N178≤w.heap.size);refine id (cC hS sC rfl fun hz i0 a w hk hS=>⟨fA (hk),?_⟩);refine cL 10 (.blk (some hz)) _ (by kernel_rfl) (lR (cH hY i0)) ?_;refine e1 4 (lS hS F7 rfl rfl 1 rfl (ou _ _ (hS.drop 1).dlt (aY.mk t.2.L t.2.At) b 2 _ _ _ (hS.boxRow 1 rfl) (hS.notin 1 rfl) (aC.lent (i:=1) rfl (hS.get 2 rfl)) (aC.lent (i:=1) rfl (hS.get 1 rfl)) (br.keep (hS.get 6 rfl) (aj _ _) (fun k hk=>.inl ((nE (i:=1) rfl k).1 hk))) _ ea) fun _ w hR hk=>?_);obtain⟨e3,cv,p3,he,⟨et,el,g3⟩,hrow,g4,b3⟩:=hR;obtain rfl:=he.symm;subst b3;refine⟨(be Q.2 e),[ax e3 cv],hrow,jj ⟨et,by decide⟩ el,xa _,fun a hS=>⟨ij rfl hk hU,?_⟩⟩;replace hS:=((hS.fR (g3.keep (aj _ _) (Nw.back2 (i:=1) rfl [ax e3 cv] _))).fS (g4.sub (Nw.back2 (i:=1) rfl [ax e3 cv] _))).freeze (R:=ac) 0 rfl 1 rfl;obtain⟨o1,hu,hM⟩:=bd hM;replace hS:=hS.re [] [0,1,2,3];refine e1 5 (bv hS H9 rfl rfl (pY _ _ hS.dltD b (ai.mk d m n) Q.1 _ _ _ _ hS.dok (hS.getD 4 rfl) (hS.getD 6 rfl) (hS.getD 7 rfl) (hS.getD 0 rfl) (hS.getD 9 rfl) _ hu) fun _ w hR a hk hA=>⟨ij rfl hk pQ,?_⟩);obtain⟨k0,hB,k1,hC,k2,hD,k3,hE,k4,hF,ks,hG,he,G,H,I,K,M,O,dn⟩:=hR;obtain rfl:=he.symm;have hS:=hA _ dn;replace hS:=(((((hS.fR (G.keep (aj _ _) (ap _))).fR (H.keep (aj _ _) (ap _))).fR (I.keep (aj _ _) (ap _))).fR (K.keep (aj _ _) (ap _))).fR (M.keep (aj _ _) (ap _))).fR (O.keep (aj _ _) (ap _));refine gE [6,7,8] hS fun a hS=>?_;refine es 10 hS fun w hS=>?_;refine gE [11] hS fun a hS=>?_;refine eD ?_;exact⟨_,_,_,_,_,_,_,_,_,_,_,_,_,_,_,_,_,_,_,_,_,_,_,hS.mt [7,8,9,0,1,2,3,4,5,6] [10,7,12,13,5,4,3,2,1,0,14,15,16],hM⟩
     rintro a w ⟨d6,a9,af,b9,E,bb,bi,bl,bs,bt,a5,V,c9,W,ca,X,ch,Y,ck,Z,cl,a0,co,hS,hM⟩;unfold ne at hM;refine am hS fun a hS=>?_;rcases cd hM with⟨i1,hM⟩|⟨i1,hM⟩
     ·refine am hS fun a hS=>?_;refine ay ?_;refine dr [(2,.blk (some g)),(8,.blk (some a5))] hS fun w hQ hS=>?_;refine dy (l:=[.blk (some g)]) 0 (v:=.agg #[V,al E,W,X,Y,Z,a0]) rfl (by kernel_rfl) (by kernel_rfl) (by kernel_rfl) (by kernel_rfl) hQ hS (dh hS rfl qx 9 rfl (gA hS 9 rfl rfl 0 rfl rfl (by decide) bn) (us:=[V,al E,W,X,Y,Z,a0]) rfl rfl (fun h=>by cases h)) rfl rfl rfl fun a hS=>?_;refine gE [1] hS fun a hS=>?_;obtain⟨h9,hg,hM⟩:=bd hM;refine e1 2 (cj hS lM rfl rfl 0 rfl (bo _ _ (hS.drop 0).dlt (aY.mk a9 af) 30 _ _ (hS.boxRow 0 rfl) (hS.notin 0 rfl) (aC.lent (i:=0) rfl (hS.get 1 rfl)) _ hg) fun _ w hR hk=>?_);obtain⟨p4,he,hrow,g5,b0⟩:=hR;obtain rfl:=he.symm;subst b0;refine⟨(be h9.2 e),hrow,fun a hS=>⟨ij rfl hk hU,?_⟩⟩;replace hS:=((((((hS.fS (aC.back (i:=0) rfl g5)).freeze (R:=ar) 3 rfl 5 rfl).freeze (R:=ab) 3 rfl 7 rfl).freeze (R:=aa) 3 rfl 9 rfl).freeze (R:=ac) 3 rfl 11 rfl).freeze (R:=au) 3 rfl 13 rfl).freeze (R:=ac) 3 rfl 15 rfl;obtain⟨B,hh,hM⟩:=bd hM;refine ec 3 hS Lp (A5 _ _ hS.dlt (hS.get 18 rfl) vv LD (cI.mk b9 (ai.mk E bb bi) bl bs bt) h9.1 _ _ _ _ _ _ (hS.get 5 rfl) (hS.get 4 rfl) (hS.get 3 rfl) (hS.get 2 rfl) (hS.get 1 rfl) (hS.get 0 rfl) _ hh) fun _ w hR a hk hA=>?_;obtain⟨p5,p6,p7,pa,pb,pc,he,g6,g7,g8,gb,gi,gp⟩:=hR;obtain rfl:=he.symm;have hS:=hA [] (fun r hr=>by cases hr) vr;replace hS:=(((((hS.fS (g6.sub (ob _))).fS (g7.sub (ob _))).fS (g8.sub (ob _))).fS (gb.sub (ob _))).fS (gi.sub (ob _))).fS (gp.sub (ob _));refine gE [4,5,6,7] hS fun a hS=>?_;refine es 8 hS fun w hS=>?_;refine eD ?_;refine am hS fun a hS=>?_;obtain⟨ib,hi,hM⟩:=bd hM;refine kc hS Lq (xd _ _ hS.dlt (cI.mk B.1.Rules (ai.mk B.1.Base.Revision B.1.Base.Inputs B.1.Base.Records) B.1.Goals B.1.Stack B.1.Ran) _ _ _ _ _ _ (hS.get 5 rfl) (hS.get 4 rfl) (hS.get 3 rfl) (hS.get 2 rfl) (hS.get 1 rfl) (hS.get 0 rfl) _ hi) fun _ w hR a hk hA=>?_;obtain⟨kt,n0,pe,n1,he,gs,gu,c2⟩:=hR;obtain rfl:=he.symm;have hS:=xN hA gs gu c2;refine go hS fun a w hS=>?_;replace hS:=(hS.freeze (R:=ab) 0 rfl 1 rfl).freezeFr (P:=P0) (R:=aa) e6 [aL ab kt ib.Inputs,aL (aR.int .i64) e f.L,aL ar x b] ⟨⟨0,rfl⟩,⟨26,rfl⟩,⟨16,rfl⟩,trivial⟩ 0 rfl 1 rfl;exact⟨_,_,_,_,_,_,_,hS.mt [0,1,2] [18,17,2,0,28,29,1],hM⟩
     exact fz
    refine am hS fun a hS=>?_;rcases cd hM with⟨i2,hM⟩|⟨i2,hM⟩
    ·refine am hS fun a hS=>?_;obtain⟨ds,hn,hM⟩:=bd hM;refine wl rfl (cj hS lM rfl rfl 0 rfl (bo _ _ (hS.drop 0).dlt (aY.mk t.2.L t.2.At) 3 _ _ (hS.boxRow 0 rfl) (hS.notin 0 rfl) (aC.lent (i:=0) rfl (hS.get 1 rfl)) _ hn) fun _ w hR hk=>?_);obtain⟨pf,he,hrow,gH,b4⟩:=hR;obtain rfl:=he.symm;subst b4;refine⟨(be ds.2 e),hrow,fun a hS=>?_⟩;replace hS:=hS.fS (aC.back (i:=0) rfl gH);refine am hS fun a hS=>?_;rcases cd hM with⟨i3,hM⟩|⟨i3,hM⟩
     ·refine am hS fun a hS=>?_;refine dr [(2,.blk (some g)),(3,.bks []),(8,.blk (some u))] hS fun w hQ hS=>?_;refine dy (l:=[.blk (some g)]) 0 (v:=.agg #[al d,o,q]) rfl (by kernel_rfl) (by kernel_rfl) (by kernel_rfl) (by kernel_rfl) hQ hS (dh hS rfl eZ 1 rfl (gA hS 1 rfl rfl 0 rfl rfl (by decide) bn) (us:=[al d,o,q]) rfl rfl (fun h=>by cases h)) rfl rfl rfl fun a hS=>?_;refine gE [1] hS fun a hS=>?_;obtain⟨hb,ho,hM⟩:=bd hM;refine e1 2 (cj hS lM rfl rfl 0 rfl (bo _ _ (hS.drop 0).dlt (aY.mk ds.2.L ds.2.At) 200 _ _ (hS.boxRow 0 rfl) (hS.notin 0 rfl) (aC.lent (i:=0) rfl (hS.get 0 rfl)) _ ho) fun _ w hR hk=>?_);obtain⟨pk,he,hrow,h0,b5⟩:=hR;obtain rfl:=he.symm;subst b5;refine⟨(be hb.2 e),hrow,fun a hS=>⟨ij rfl hk hU,?_⟩⟩;replace hS:=(hS.fS (aC.back (i:=0) rfl h0)).fact (aL ac (.slice none 0 0) []) (aC.nil_ _ _ _);obtain⟨ii,hp,hM⟩:=bd hM;replace hS:=hS.re [] [0,1,2];refine e1 3 (bv hS KT rfl rfl (yd _ _ hS.dltD (ai.mk d m n) hb.1 ([]) _ _ _ hS.dok (hS.getD 5 rfl) (hS.getD 6 rfl) (hS.getD 0 rfl) (hS.getD 8 rfl) _ hp) fun _ w hR a hk hA=>⟨ij rfl hk pQ,?_⟩);obtain⟨l0,n2,pl,nd,ps,ng,he,h1,h2,h3,i4⟩:=hR;obtain rfl:=he.symm;have hS:=hA _ i4;replace hS:=((hS.fR (h1.keep (aj _ _) (ap _))).fR (h2.keep (aj _ _) (ap _))).fR (h3.keep (aj _ _) (ap _));refine gE [4,5,6,7] hS fun a hS=>?_;refine es 8 hS fun w hS=>?_;refine eD ?_;replace hS:=(hS.freeze (R:=ab) 0 rfl 2 rfl).freezeFr (P:=P0) (R:=aa) e6 [aL ab l0 ii.1.Inputs,aL (aR.int .i64) e f.L,aL ar x b] ⟨⟨0,rfl⟩,⟨11,rfl⟩,⟨7,rfl⟩,trivial⟩ 0 rfl 2 rfl;exact⟨_,_,_,_,_,_,_,hS.mt [1,2,3] [9,7,2,0,13,14,1],hM⟩
     exact fz
    refine am hS fun a hS=>?_;refine dr [(4,.blk (some g)),(10,.blk (some u))] hS fun w hQ hS=>?_;refine gE [0] hS fun a hS=>?_;refine dy (l:=[.blk (some g)]) 1 (v:=.agg #[al d,o,q]) rfl (by kernel_rfl) (by kernel_rfl) (by kernel_rfl) (by kernel_rfl) hQ hS (dh hS rfl eZ 1 rfl (gA hS 1 rfl rfl 0 rfl rfl (by decide) bn) (us:=[al d,o,q]) rfl rfl (fun h=>by cases h)) rfl rfl rfl fun a hS=>?_;refine gE [2,3] hS fun a hS=>?_;obtain⟨hc,hq,hM⟩:=bd hM;refine e1 4 (lS hS F7 rfl rfl 0 rfl (ou _ _ (hS.drop 0).dlt (aY.mk t.2.L t.2.At) b 2 _ _ _ (hS.boxRow 0 rfl) (hS.notin 0 rfl) (aC.lent (i:=0) rfl (hS.get 1 rfl)) (aC.lent (i:=0) rfl (hS.get 0 rfl)) (br.keep (hS.get 5 rfl) (aj _ _) (fun k hk=>.inl ((nE (i:=0) rfl k).1 hk))) _ hq) fun _ w hR hk=>?_);obtain⟨e4,d0,pw,he,⟨ew,ep,h4⟩,hrow,h5,b6⟩:=hR;obtain rfl:=he.symm;subst b6;refine⟨(be hc.2 e),[ax e4 d0],hrow,jj ⟨ew,by decide⟩ ep,xa _,fun a hS=>⟨ij rfl hk hU,?_⟩⟩;replace hS:=((hS.fR (h4.keep (aj _ _) (Nw.back2 (i:=0) rfl [ax e4 d0] _))).fS (h5.sub (Nw.back2 (i:=0) rfl [ax e4 d0] _))).freeze (R:=ac) 0 rfl 1 rfl;obtain⟨it,hs,hM⟩:=bd hM;refine ec 5 hS JK (rE _ _ hS.dlt (hS.get 8 rfl) uu Mo b (ai.mk d m n) hc.1 _ _ _ _ (hS.get 3 rfl) (hS.get 5 rfl) (hS.get 6 rfl) (hS.get 0 rfl) _ hs) fun _ w hR a hk hA=>?_;obtain⟨l1,q0,nl,q1,nm,he,h6,h7,h8,c2⟩:=hR;obtain rfl:=he.symm;have hS:=xN hA h7 h8 c2;replace hS:=hS.fS (h6.sub (ob _));refine gE [6,7,8,9] hS fun a hS=>?_;refine es 10 hS fun w hS=>?_;refine eD ?_;replace hS:=hS.freezeFr (P:=P0) (R:=aa) e6 [aL ab l1 it.1.Inputs,aL (aR.int .i64) e f.L,aL ar x b] ⟨⟨0,rfl⟩,⟨10,rfl⟩,⟨6,rfl⟩,trivial⟩ 0 rfl 2 rfl;exact⟨_,_,_,_,_,_,_,hS.mt [1,2,3] [8,6,2,0,12,13,1],hM⟩
   rintro a w ⟨d3,d4,c4,a3,a4,c0,c1,hS,hM⟩;unfold c8 at hM;exact fz
  refine am hS fun a hS=>?_;cases hM
  have hr:=hf1 _ rfl;subst hr;have hM:nc d m n C D=some y:=hMo1;exact⟨_,_,_,_,_,_,_,hS.mt [1,2,0] [2,3,1,4,0,5,6],hM⟩
 rintro a w ⟨c3,a1,a2,d1,d2,S,U,hS,hM⟩;unfold nc at hM;refine go hS fun a w hS=>?_;cases hM
 refine aG hS rfl (rC 1 hS) ?_;exact⟨S,U,e,rfl,(aC.up ⟨.inr (aH (i:=2) rfl),trivial⟩ (hS.get 0 rfl)),(aC.up ⟨.inr (aH (i:=2) rfl),trivial⟩ (hS.get 1 rfl)),hS.boxRow 2 rfl,(aC.up ⟨.inr (aH (i:=2) rfl),trivial⟩ (hS.get 2 rfl)),rfl,(bG.up _ ⟨.inr (aH (i:=2) rfl),trivial⟩ (hS.get 6 rfl))⟩
def qj (g:aY) (f:Int):Option (LU×ai×aY):=(o0 g).bind fun c=>(ip (aY.mk c.2.L c.2.At) 4).bind fun d=>(jE (ai.mk 0 ([]) ([])) d.1).bind fun e=>(oY (aY.mk d.2.L d.2.At) c.1 (ai.mk e.1.Revision e.1.Inputs e.1.Records) f).bind fun b=>some ((c.1,(ai.mk b.1.Revision b.1.Inputs b.1.Records),(aY.mk b.2.L b.2.At)))
theorem AS (T:Nat→Prop) (W0:World) (hT:TW T W0) (l:aY) (m:Int) (j:Value) (b:Nat) (a2:W0.heap[b]? = some (.cells (be l j).toArray 73 (0,0))) (Z:¬ T b) (a3:aC (aR.int .i64) (dT T [.box b (be l j) 73]) W0 j l.L) (hLv:dc (dT T [.box b (be l j) 73]) W0) (y:LU×ai×aY) (hM:qj l m=some y):a7 aO (fun k=>k=b) 25 [pt b 0,al m] W0 (fun v w'=>∃ (v3:Value) (v4:Value) (A:Value) (wi:ba) (z:Value),v = .tuple #[v3,.agg (a6 y.2.1 v4 A).toArray]∧aC ar (dT T [ah A wi,.box b (be y.2.2 z) 73]) w' v3 y.1∧aC ab (dT T [ah A wi,.box b (be y.2.2 z) 73]) w' v4 y.2.1.Inputs∧ge aa T W0 w' [ah A wi,.box b (be y.2.2 z) 73] 33 A wi y.2.1.Records∧w'.heap[b]? = some (.cells (be y.2.2 z).toArray 73 (0,0))∧aC (aR.int .i64) (dT T [ah A wi,.box b (be y.2.2 z) 73]) w' z y.2.2.L∧j=z):=by
 refine qG (c:=_) Tryz.func25 rfl T 24 Tryz.ntmps25 hT rfl a2 Z fun a hS=>?_;replace hS:=(hS.fact br hLv).fS a3;unfold qj at hM;refine am hS fun a hS=>?_;refine ka hS lx fun a9 av a w hk hS=>?_;refine am hS fun a hS=>?_;obtain⟨d,U,hM⟩:=bd hM;refine wl rfl (lS hS K6 rfl rfl 1 rfl (zB _ _ (hS.drop 1).dlt l _ _ (hS.boxRow 1 rfl) (hS.notin 1 rfl) (aC.lent (i:=1) rfl (hS.get 0 rfl)) _ U) fun _ w hR hk=>?_);obtain⟨g,q,b2,he,⟨D,B,F⟩,hrow,G,s⟩:=hR;obtain rfl:=he.symm;subst s;refine⟨(be d.2 j),[bJ g q],hrow,jj ⟨D,by decide⟩ B,xa _,fun a hS=>?_⟩;replace hS:=(hS.fR (F.keep (aj _ _) (Nw.back2 (i:=1) rfl [bJ g q] _))).fS (G.sub (Nw.back2 (i:=1) rfl [bJ g q] _));refine am hS fun a hS=>?_;refine qy hS (bp (ps:=[]) hS A0 lx rfl (us:=[]) trivial (ws:=[al 0,.slice none 0 0,.slice none 0 0]) rfl) fun a hS=>?_;refine am hS fun a hS=>?_;obtain⟨e,V,hM⟩:=bd hM;refine wl rfl (lS hS H1 rfl rfl 2 rfl (oX _ _ (hS.drop 2).dlt (aY.mk d.2.L d.2.At) 4 _ _ (hS.boxRow 2 rfl) (hS.notin 2 rfl) (aC.lent (i:=2) rfl (hS.get 0 rfl)) (br.keep (hS.get 3 rfl) (aj _ _) (fun k hk=>.inl ((nE (i:=2) rfl k).1 hk))) _ V) fun _ w hR hk=>?_);obtain⟨x,r,b3,he,⟨E,C,H⟩,hrow,I,t⟩:=hR;obtain rfl:=he.symm;subst t;refine⟨(be e.2 j),[gL x r],hrow,jj ⟨E,by decide⟩ C,xa _,fun a hS=>?_⟩;replace hS:=((((hS.fR (H.keep (aj _ _) (Nw.back2 (i:=2) rfl [gL x r] _))).fS (I.sub (Nw.back2 (i:=2) rfl [gL x r] _))).fact (aL ab (.slice none 0 0) []) (aC.nil_ _ _ _)).fact (aL aa (.slice none 0 0) []) (aC.nil_ _ _ _)).freeze (R:=bc) 0 rfl 3 rfl;obtain⟨n,W,hM⟩:=bd hM;refine kc hS H0 (pT _ _ hS.dlt (hS.get 8 rfl) (ai.mk 0 ([]) ([])) e.1 _ _ _ (hS.get 2 rfl) (hS.get 1 rfl) (hS.get 0 rfl) _ W) fun _ w hR a hk hA=>?_;obtain⟨a0,ag,b4,ak,he,J,K,a1⟩:=hR;obtain rfl:=he.symm;have hS:=xN hA J K a1;refine am hS fun a hS=>?_;refine ka hS lx fun af b0 a w hk hS=>?_;refine go hS fun a w hS=>?_;replace hS:=((hS.freeze (R:=ar) 3 rfl 8 rfl).freeze (R:=ab) 1 rfl 2 rfl).freezeFr (P:=(fun k=>(fun k=>k=b) k∨W0.heap.size≤k)) (R:=aa) (fun _ h=>h) [aL ab a0 n.1.Inputs,aL (aR.int .i64) j e.2.L,aL ar g d.1] ⟨⟨0,rfl⟩,⟨7,rfl⟩,⟨1,rfl⟩,trivial⟩ 1 rfl 2 rfl;obtain⟨o,X,hM⟩:=bd hM;refine wl rfl (cj hS K7 rfl rfl 2 rfl (zz _ _ (hS.drop 2).dlt (aY.mk e.2.L e.2.At) d.1 (ai.mk n.1.Revision n.1.Inputs n.1.Records) m _ _ _ _ _ (hS.boxRow 2 rfl) (hS.notin 2 rfl) (aC.lent (i:=2) rfl (hS.get 9 rfl)) (aC.lent (i:=2) rfl (hS.get 3 rfl)) (aC.lent (i:=2) rfl (hS.get 2 rfl)) (aC.lent (i:=2) rfl (hS.get 0 rfl)) (br.keep (hS.get 14 rfl) (aj _ _) (fun k hk=>.inl ((nE (i:=2) rfl k).1 hk))) (fun k=>(fun k=>k=b) k∨W0.heap.size≤k) (hS.toPm (P:=(fun k=>(fun k=>k=b) k∨W0.heap.size≤k)) 2 rfl (fun _ h=>h)) (bG.lent (i:=2) _ rfl (hS.get 1 rfl)) _ X) fun _ w hR hk=>?_);obtain⟨Q,S,b5,he,M,N,hrow,O,u,p⟩:=hR;obtain rfl:=he.symm;subst u;refine⟨(be o.2 j),hrow,fun a hS=>?_⟩;replace hS:=(((hS.fS (aC.back (i:=2) rfl M)).fS (aC.back (i:=2) rfl N)).fS (aC.back (i:=2) rfl O)).fact (mw (fun k=>(fun k=>k=b) k∨W0.heap.size≤k) [aL ab Q o.1.Inputs,aL (aR.int .i64) j e.2.L,aL ar g d.1] aa 33 S o.1.Records) (bG.back (i:=2) _ rfl p);refine go hS fun a w hS=>?_;obtain⟨Y,hS⟩:=hS.thawFr (F1:=[aL (aR.int .i64) j o.2.L]) 0 rfl (fun _ h=>h) (List.forall_mem_cons.2 ⟨⟨aH (i:=1) rfl,IE (fun _ _ _ _ _ h=>h) 1 rfl⟩,(fun f hf=>nomatch hf)⟩);cases hM
 refine aG hS Tryz.results25 (aw hS rfl (bh hS rfl 2 rfl eZ rfl (fun h=>by cases h) aF)) ?_;exact⟨g,Q,S,Y,j,rfl,(aC.up ⟨.inr (aH (i:=0) rfl),⟨.inr (aH (i:=3) rfl),trivial⟩⟩ (hS.get 4 rfl)),(aC.up ⟨.inr (aH (i:=0) rfl),⟨.inr (aH (i:=3) rfl),trivial⟩⟩ (hS.get 2 rfl)),hS.retOwnm ⟨.inr (aH (i:=0) rfl),⟨.inr (aH (i:=3) rfl),trivial⟩⟩ 0 rfl 0 rfl 3 rfl (by decide),hS.boxRow 3 rfl,(aC.up ⟨.inr (aH (i:=0) rfl),⟨.inr (aH (i:=3) rfl),trivial⟩⟩ (hS.get 1 rfl)),rfl⟩
end
end
section
open Go.RowKit
open Go.Lib hiding intOf
structure D5 (c:dk):Prop where
 key:∃ n,n<10∧c.Key=cJ n
 value:c.Value.size≤1000
theorem tV.le {rev rev':Int} {x:aT} (h:tV rev x) (hl:rev≤rev'):tV rev' x:=⟨h.key,h.value,h.low,by have:=h.high; omega⟩
section
variable {l:List aI} {b:ai}
theorem mB.le {rev rev':Int} {r:ad} (h:mB l rev r) (hl:rev≤rev'):mB l rev' r:=⟨h.key,h.value,h.reads,h.good,h.low,h.mid,by have:=h.high; omega,h.cost,h.dirty⟩
theorem dt.rise (h:dt l b) (hr:b.Revision+1≤1000000) {ins:List aT} (h1:tT ins) (h2:∀ x∈ins,tV (b.Revision+1) x):dt l (ai.mk (b.Revision+1) ins b.Records) :=
 ⟨⟨by have:=h.rev; show 0≤b.Revision+1; omega,hr⟩,h2,h1,fun r hm=>(h.recs r hm).le (by show b.Revision≤b.Revision+1; omega),h.recsA⟩
theorem GW {ins:List aT} {rev:Int} (h:∀ x∈ins,tV rev x) {x:aT} (hx:tV rev x):∀ y∈rM ins x,tV rev y:=fun y hy=>by
 rcases ug.1 hy with rfl | ⟨hy,_⟩
 ·exact hx
 ·exact h y hy
theorem Cx {ins:List aT} (h1:tT ins) {rev:Int} (h2:∀ x∈ins,tV rev x):ins.length≤10:=by
 have h3:=mK (uZ (f:=aT.Key) h1) (m:=(List.range 10).map cJ) fun k hk=>by
  obtain⟨r,hr,rfl⟩:=eS.1 hk;obtain⟨n,hn,e⟩:=(h2 r hr).key;exact eS.2 ⟨n,vo.2 hn,e.symm⟩
 simpa using h3
theorem Di {d:List Int} {i:Int} (hd:bQ d i):Ok (nH ⟨d,i⟩) fun y=>D5 y.1∧bQ y.2.L y.2.At:=by
 unfold nH;refine aJ (cU hd (by omega) (by omega)) fun y ⟨y1,y2,d1⟩=>?_;obtain⟨c,hc⟩:∃ c:Nat,y.1=c:=⟨y.1.toNat,by omega⟩;rw [hc];refine aN (tD (by omega)) (aJ (G7 d1 (by simp) (by simp)) fun w ⟨w1,d2⟩=>aq ⟨⟨⟨c,by omega,rfl⟩,?_⟩,d2⟩);have:∀ s∈[(ByteArray.mk #[48]),(ByteArray.mk #[49]),(ByteArray.mk #[50]),(ByteArray.mk #[51]),(ByteArray.mk #[55]),(ByteArray.mk #[49,48,48]),bW,(ByteArray.mk #[120]),(ByteArray.mk #[49,54]),(ByteArray.mk #[49])],s.size≤1000:=by decide
 exact this _ w1
theorem tr {d:List Int} {i:Int} (hd:bQ d i) {most:Int} (h1:0≤most) (h2:most≤30):Ok (ip ⟨d,i⟩ most) fun y=>(∀ c∈y.1,D5 c)∧(y.1.length:Int)≤most∧bQ y.2.L y.2.At:=by
 unfold ip;rw [oA (by omega) (by omega)];refine aJ (cU hd (by omega) (by omega)) fun y ⟨y1,y2,d1⟩=>?_;refine bK (fun (k:Nat) (s:(List dk)×Int×(List Int)×Int)=>(∀ q∈s.1,D5 q)∧s.1.length=k∧s.2.1=y.1-k∧0≤s.2.1∧bQ s.2.2.1 s.2.2.2) (fun r=>(∀ q∈r.1,D5 q)∧(r.1.length:Int)≤most∧bQ r.2.1 r.2.2) 31 ⟨fun q hq=>absurd hq mA,rfl,by simp,y1,d1⟩ ?_ (fun r hr=>aq hr);rintro k ⟨gs,c,d,i⟩ hk ⟨g1,g2,g3,g3',g4⟩;dsimp only at g1 g2 g3 g3' g4 ⊢;unfold kV;refine aB (fun hc=>?_) (fun _=>aq ⟨g1,by show (gs.length:Int)≤most; omega,g4⟩);have hc:=of_decide_eq_true hc;have hw:IntKind.i64.wrap (c-1)=c-1:=oA (by omega) (by omega);refine aJ (Di g4) fun z ⟨z1,z2⟩=>eK (ey (by simp; omega)) (aq ⟨by omega,?_,by rw [cW,g2]; rfl,?_,?_,z2⟩)
 ·intro q hq;rcases cg.1 hq with hq | hq
  ·exact g1 q hq
  ·rw [dq.1 hq]; exact z1
 ·show IntKind.i64.wrap (c-1)=_;rw [hw]; omega
 ·show 0≤IntKind.i64.wrap (c-1);rw [hw]; omega
theorem Dg (x y:ad):Ok (mj x y) fun _=>True:=by
 unfold mj mQ;refine aN rfl (aN rfl (aB (fun _=>aq trivial) (fun _=>aB (fun _=>aq trivial) (fun _=>aN (mW _ _) (aq trivial)))))
theorem EZ {recs:List ad} (h:recs.length≤1000):Ok (nU recs) fun o=>o.length≤recs.length:=by
 unfold nU;refine bK (fun (k:Nat) (s:List ad×Int)=>s.2=k∧s.1.length=k∧k≤recs.length) (fun o=>o.length≤recs.length) recs.length ⟨rfl,rfl,ez _⟩ ?_ (fun o ho=>aq ho);rintro k ⟨out,g⟩ hk ⟨rfl,hlen,_⟩;dsimp only at hlen ⊢;unfold mo;refine aB (fun hlt=>?_) (fun _=>aq (by show out.length≤_; omega));have hlt:k<recs.length:=by have:=of_decide_eq_true hlt; omega
 refine aN (bE hlt) ?_;refine bK (fun (i:Nat) (s:Int)=>s=i∧i≤out.length) (fun r=>∃ i:Nat,r=i∧i≤out.length) out.length ⟨rfl,ez _⟩ ?_ ?_
 ·rintro i _ hi ⟨rfl,_⟩;unfold mn;refine aB (fun hlt2=>?_) (fun _=>aq ⟨i,rfl,hi⟩);have hlt2:i<out.length:=by have:=of_decide_eq_true hlt2; omega
  refine aN (bE hlt2) (aJ (Dg _ _) fun y _=>aB (fun _=>aq ⟨hlt2,cR (by omega),hlt2⟩) (fun _=>aq ⟨i,rfl,hi⟩))
 ·rintro _ ⟨i,rfl,hi⟩;unfold mm ml;refine aN (qt hi) (aN (uE hi) ?_);have e1:(out.take i).length=i:=by rw [il]; omega
  have e2:(out.drop i).length=out.length-i:=rJ;refine eK (ey (by simp; omega)) (eK (ey (by simp; omega)) (eK (ey (by simp; omega)) (aq ⟨hlt,cR (by omega),?_,hlt⟩)));simp only [Bu,cW,g9,rI];omega
theorem FA {recs:List ad} (h:recs.length≤1000):Ok (nT recs) fun _=>True:=by
 unfold nT;refine bK (fun (k:Nat) (s:Int×Int)=>s.2=k∧k≤recs.length) (fun _=>True) recs.length ⟨rfl,ez _⟩ ?_ (fun r _=>aq trivial);rintro k ⟨n,g⟩ hk ⟨rfl,_⟩;dsimp only;unfold mi;refine aB (fun hlt=>?_) (fun _=>aq trivial);have hlt:k<recs.length:=by have:=of_decide_eq_true hlt; omega
 exact aN (bE hlt) (aN rfl (aq ⟨hlt,cR (by omega),hlt⟩))
end
end
section
open Go.RowKit
open Go.Lib hiding intOf
def vT (l:List aI) (b:ai):Prop:=∃ H,VI l H b I6
def vU (ins0:List aT) (rev:Int) (ins:List aT):Prop:=∀ k,pq ⟨0,ins,[]⟩ k=pq ⟨0,ins0,[]⟩ k∨(pq ⟨0,ins,[]⟩ k).Changed=rev+1
theorem wR {ins:List aT} (h:tT ins) {x:aT} (hx:x∈ins):pq ⟨0,ins,[]⟩ x.Key=x:=by
 unfold pq;dsimp only;cases hf:ins.find? (fun y=>db y.Key x.Key) with
 | none=>exact absurd (dK.2 rfl) (vN.1 hf x hx)
 | some y =>
  have h1:=List.find?_some hf;exact D9 h (List.mem_of_find?_eq_some hf) hx (dK.1 h1)
theorem yq {ins:List aT} {k:ae} (h:∀ x∈ins,x.Key≠k):pq ⟨0,ins,[]⟩ k=⟨k,⟨#[]⟩,0⟩:=by
 unfold pq;dsimp only;rw [vN.2 fun x hx e=>h x hx (dK.1 e)]
theorem vU.refl (ins:List aT) (rev:Int):vU ins rev ins:=fun _=>.inl rfl
theorem vU.put {ins0 ins:List aT} {rev:Int} (h:vU ins0 rev ins) (ha:tT ins) {x:aT} (hx:x.Changed=rev+1):vU ins0 rev (rM ins x):=fun k=>by
 have hp:=A1 ha x;by_cases hk:k=x.Key
 ·subst hk;rw [wR hp (ug.2 (.inl rfl))];exact .inr hx
 ·have e:pq ⟨0,rM ins x,[]⟩ k=pq ⟨0,ins,[]⟩ k:=by
   by_cases hy:∃ y∈ins,y.Key=k
   ·obtain⟨y,hy,rfl⟩:=hy;rw [wR hp (ug.2 (.inr ⟨hy,hk⟩)),wR ha hy]
   ·rw [yq fun y hm e=>hy ⟨y,hm,e⟩,yq fun y hm e=>?_];rcases ug.1 hm with rfl | ⟨hm,_⟩
    ·exact hk e.symm
    ·exact hy ⟨y,hm,e⟩
  rw [e]; exact h k
section
variable {l:List aI} {V:Nat→ByteArray} {H:Int→ae→ByteArray} {b:ai}
theorem vT.rise (hh:vT l b) (hB:dt l b) {ins:List aT} (hV:vU b.Inputs b.Revision ins):vT l ⟨b.Revision+1,ins,b.Records⟩:=by
 obtain⟨H,h⟩:=hh;have hlo:∀ r,r≤b.Revision→(fun k=>if r≤b.Revision then H r k else (pq ⟨0,ins,[]⟩ k).Value)=H r:=fun r hr=>funext fun k=>if_pos hr;refine⟨fun r k=>if r≤b.Revision then H r k else (pq ⟨0,ins,[]⟩ k).Value,?_,?_,?_,?_⟩
 ·intro k;show _=if b.Revision+1≤b.Revision then _ else _;rw [if_neg (by omega)]; rfl
 ·intro k r h1 h2;have h2:r≤b.Revision+1:=h2;show (if r≤b.Revision then H r k else _)=if b.Revision+1≤b.Revision then _ else _;rw [if_neg (show ¬ b.Revision+1≤b.Revision by omega)];by_cases hr:r≤b.Revision
  ·rw [if_pos hr];rcases hV k with e | e
   ·have h1:(pq ⟨0,ins,[]⟩ k).Changed≤r:=h1;rw [e] at h1 ⊢;have h3:=h.past k r h1 hr;rw [h3]; exact (h.now k).symm
   ·have h1:(pq ⟨0,ins,[]⟩ k).Changed≤r:=h1;omega
  ·rw [if_neg hr]
 ·intro m hm n r hn hk;have:=(hB.recs m hm).high;rw [hlo _ this];exact h.recv m hm n r hn hk
 ·intro m hm x hx hmx;have:=(hB.recs m hm).high;rw [hlo _ this];rcases h.link m hm x hx hmx with h1 | ⟨_,h2,_⟩
  ·exact .inl h1
  ·exact h2.elim
theorem vT.sub (hh:vT l b) {recs:List ad} (h:∀ m∈recs,m∈b.Records):vT l ⟨b.Revision,b.Inputs,recs⟩:=by
 obtain⟨H,hv⟩:=hh;exact⟨H,hv.of fun m hm=>⟨m,h m hm,rfl,rfl,rfl,rfl,rfl⟩⟩
theorem rN (hR:a8 l) (h:dt l b) (hh:vT l b) (hr:b.Revision+1≤1000000) {cs:List dk} (hc:∀ c∈cs,D5 c) (hn:cs.length≤32):Ok (jE b cs) fun y=>dt l y.1∧y.1.Revision≤b.Revision+1∧vT l y.1∧y.1.Records=b.Records:=by
 have hl:=hR.high;have hcp:=tu (h.rm hl).1 (h.rm hl).2.1;have hrev:=h.rev;have hw:IntKind.i64.wrap (b.Revision+1)=b.Revision+1:=oA (by omega) (by omega);unfold jE;refine aN hcp (aN (ww h hl) ?_);rw [decide_eq_false (by omega)];simp only [im,cond_false];refine aN (fG (r:=Fl.go ()) cs.length (fun k hk=>?_) ?_) ?_
 ·obtain⟨n,hn,e⟩:=(hc _ (iL hk)).key;unfold iG;rw [dlt hk,cond_true,bE hk,aD,e,tq (by omega),aD];simp only [im,cond_false];rw [mF,aD,cR (by omega)]; rfl
 ·unfold iG;rw [bS]; rfl
 show Ok (iE cs b) _;unfold iE;refine aN (fG (r:=Fl.go ()) cs.length (fun k hk=>?_) ?_) ?_
 ·have:=(hc _ (iL hk)).value;unfold iF;rw [dlt hk,cond_true,bE hk,aD,decide_eq_false (by omega),cR (by omega)]; rfl
 ·unfold iF;rw [bS]; rfl
 show Ok (iD cs b) _;unfold iD;refine aN hcp ?_;refine bK (fun (k:Nat) (s:Bool×Int×List aT)=>s.2.1=k∧tT s.2.2∧(∀ x∈s.2.2,tV (b.Revision+1) x)∧k≤cs.length∧vU b.Inputs b.Revision s.2.2) (fun r=>tT r.2∧(∀ x∈r.2,tV (b.Revision+1) x)∧vU b.Inputs b.Revision r.2) cs.length ⟨rfl,h.insA,fun x hx=>(h.ins x hx).le (by omega),ez _,vU.refl _ _⟩ ?_ ?_
 ·rintro k ⟨ch,g,ins⟩ hk ⟨rfl,h1,h2,_,hV⟩;dsimp only at h1 h2 hV ⊢;unfold k6;refine aB (fun hlt=>?_) (fun _=>aq ⟨h1,h2,hV⟩);have hlt:k<cs.length:=by have:=of_decide_eq_true hlt; omega
  have hcO:=hc _ (iL hlt);refine aN (bE hlt) ?_;generalize cs[k]=c at hcO;rw [cR (by omega)];refine aN (uE (by omega)) ?_;have hd:(cs.drop (k+1)).length≤32:=by rw [rJ]; omega
  have hj2:∀ ch' ins',tT ins'→(∀ x∈ins',tV (b.Revision+1) x)→vU b.Inputs b.Revision ins'→Ok (gQ (k:Int) ch' ins') fun y=>match y with
    | .go s=>k<cs.length∧(s.2.1=((k+1:Nat):Int)∧tT s.2.2∧(∀ x∈s.2.2,tV (b.Revision+1) x)∧k+1≤cs.length∧vU b.Inputs b.Revision s.2.2)
    | .out r=>tT r.2∧(∀ x∈r.2,tV (b.Revision+1) x)∧vU b.Inputs b.Revision r.2:=fun ch' ins' q1 q2 q3=>aq ⟨hlt,cR (by omega),q1,q2,hlt,q3⟩
  refine bK (fun (i:Nat) (s:Bool×Int)=>s.2=i∧i≤(cs.drop (k+1)).length) (fun _=>True) (cs.drop (k+1)).length ⟨rfl,ez _⟩ ?_ ?_
  ·rintro i ⟨la,q⟩ hi ⟨rfl,_⟩;dsimp only;unfold k5;refine aB (fun hlt2=>?_) (fun _=>aq trivial);have hlt2:i<(cs.drop (k+1)).length:=by have:=of_decide_eq_true hlt2; omega
   refine aN (bE hlt2) (aB (fun _=>aq ⟨hlt2,cR (by omega),hlt2⟩) (fun _=>aq ⟨hlt2,cR (by omega),hlt2⟩))
  ·intro la _;unfold l9;refine aB (fun _=>(hj2 _ _ h1 h2 hV).mono fun y hy=>by cases y <;> exact hy) (fun _=>aN (Cw (h.rm hl).2.1 _) (aB (fun _=>(hj2 _ _ h1 h2 hV).mono fun y hy=>by cases y <;> exact hy) (fun _=>?_)));have hil:=Cx h1 h2;have hput:=DI (r:=aT.mk c.Key c.Value (b.Revision+1)) h1 (by unfold Rm; omega) (u:=b) hw (k:Int);have hput2:((loop (fun s:(List aT)×Bool×Int=>fg b ins c s.1 s.2.1 s.2.2) (([]:List aT),false,0)).bind fun q=>eh b (k:Int) c q.1 q.2)=eg (k:Int) (rM ins (aT.mk c.Key c.Value (b.Revision+1))):=hput;rw [hput2];unfold eg;exact (hj2 _ _ (A1 h1 _) (GW h2 ⟨hcO.key,hcO.value,by show 0≤b.Revision+1; omega,ru _⟩) (hV.put h1 rfl)).mono fun y hy=>by cases y <;> exact hy
 ·rintro⟨ch,ins⟩ ⟨h1,h2,hV⟩;dsimp only at h1 h2 hV ⊢;have hil:=Cx h1 h2;unfold jF;rw [hw];refine aB (fun _=>aq ⟨h,by show b.Revision≤b.Revision+1; omega,hh,rfl⟩) (fun _=>?_);rw [decide_eq_false (by omega),decide_eq_false (by omega)];exact aq ⟨h.rise hr h1 h2,ru _,hh.rise h hV,rfl⟩
theorem Fy (hR:a8 l) (hD:y0 l (inB b) V) (hb:dt l b) {s:ao} (hs:py l V b s) (hV:V=Vd l (H b.Revision)) {N:Nat} (hN:N≤90) {t:cI} (h:BE l b N t) (hsv:SV l H t.Base t.Stack):Ok (o9 vv s t) fun y=>BE l b (N+1) y.1∧py l V b y.2.2.2∧SV l H y.1.Base y.1.Stack:=by
 have hl:=hR.high;have hb0:=(hb.rm hl).2.1;have h1:=h.ng;have h2:=h.len;have h3:=h.ran;have up:BE l b (N+1) t:=⟨h.rules,h.lv,h.goals,h.ng,h.fr,by omega,by omega⟩;unfold o9;refine aN (wK hR (by omega) h) (aB (fun h0=>aB (fun _=>aq ⟨up,hs,hsv⟩) (fun hg=>?_)) (fun h0=>?_))
 ·have hg0:0<t.Goals.length:=by
   rcases vR t.Goals.length with e | e
   ·rw [e] at hg; cases hg
   ·exact e
  have hk:=h.goals _ (iL hg0);refine aN (by have:=bE hg0; exact this) (aN (by have:=uE (xs:=t.Goals) (a:=1) (by omega); exact this) (aJ (DD hl h.lv.ok (by simp) hk) fun y hy=>?_));have hg1:∀ k∈t.Goals.drop 1,kB l k:=fun k hk=>h.goals k (List.mem_of_mem_drop hk);have hg2:(t.Goals.drop 1).length≤32:=by rw [rJ]; omega
  refine aB (fun hy1=>?_) (fun _=>aq ⟨⟨h.rules,h.lv,hg1,hg2,h.fr,up.len,up.ran⟩,hs,hsv⟩);obtain⟨n,hn,e⟩:=hy hy1;refine aq ⟨⟨h.rules,h.lv,hg1,hg2,?_,by show 1≤N+1; omega,up.ran⟩,hs,?_⟩
  rotate_left
  ·have he:t.Stack=[]:=xJ (by simpa using h0);have hp:=hsv.push hl h.lv.ok n;rw [he] at hp;show SV l H t.Base [aX.mk t.Goals[0] false 0 [] []];rw [e];exact hp
  show ∀ f∈[aX.mk t.Goals[0] false 0 [] []],BA l f;rw [e];exact BF (fs:=[]) (fun f hf=>absurd hf mA) hn
 ·have hs0:0<t.Stack.length:=by
   rcases vR t.Stack.length with e | e
   ·rw [e] at h0; cases h0
   ·exact e
  have hfr:Ok (km vv s t.Base t.Stack []) fun y=>yj l V b t.Base t.Stack.length y∧SV l H y.1 y.2.1:=by
   have hlast:=bC (l:=t.Stack) (i:=t.Stack.length-1) (by omega);have e:=DV (by omega) hlast;have hf:=h.fr;have hln:t.Stack.length≤900:=by omega
   have hsv:=hsv;rw [e] at hf hln hsv ⊢;exact BQ hR hD hb0 (by rw [hV,h.lv.rev]) hs h.lv.ok hf hln hsv
  refine aJ hfr fun y ⟨hy,hys⟩=>aB (fun _=>aq ⟨up,hy.sol,hsv⟩) (fun _=>?_);have hw:=hy.wk;have hln:=hy.len;refine eK (ey (by omega)) (aq ⟨⟨h.rules,⟨hy.lv.ok,hy.lv.rev.trans h.lv.rev,hy.lv.ins.trans h.lv.ins⟩,h.goals,h.ng,hy.fr,by show y.2.1.length≤_; omega,?_⟩,hy.sol,hys⟩);show (t.Ran++y.2.2.1).length≤_;rw [cW]; omega
def Jc (l:List aI) (V:Nat→ByteArray) (H:Int→ae→ByteArray) (b:ai) (k:Nat):Int×(List aI)×Int×(List aT)×(List ad)×(List ae)×(List aX)×(List ae)×(List aI)×Int×(List aT)×(List ad)×(List (ae×ByteArray))×(List (ae×(List ae)))→Prop
 | (n,t1,t2,t3,t4,t5,t6,t7,g1,g2,g3,g4,g5,g6)=>n=(k:Int)∧BE l b k (cI.mk t1 (ai.mk t2 t3 t4) t5 t6 t7)∧py l V b (ao.mk g1 (ai.mk g2 g3 g4) g5 g6)∧SV l H (ai.mk t2 t3 t4) t6
def Jg (l:List aI) (H:Int→ae→ByteArray) (b:ai):Fl (Int×(List aI)×Int×(List aT)×(List ad)×(List ae)×(List aX)×(List ae)) (cI×Int×Int)→Prop
 | .go (n,t1,t2,t3,t4,t5,t6,t7)=>BE l b 90 (cI.mk t1 (ai.mk t2 t3 t4) t5 t6 t7)∧SV l H (ai.mk t2 t3 t4) t6
 | .out y=>BE l b 90 y.1∧SV l H y.1.Base y.1.Stack
theorem DM (hR:a8 l) (hb:dt l b) (hvi:VI l H b I6) {t:cI} (h:BE l b 0 t) (hbase:t.Base=b) {most:Int} (hm:most≤30):Ok (qo vv t most) fun y=>BE l b 90 y.1∧SV l H y.1.Base y.1.Stack:=by
 have hl:=hR.high;have hD:=rQ (inB b) hR;have hst:t.Stack=[]:=xJ (Nat.le_zero.1 h.len);have hru:=h.rules;have hsv:SV l H t.Base t.Stack:=by
  rw [hst,hbase];exact⟨hvi.weak fun _ _ hp _=>hp.elim,fun f hf=>absurd hf mA⟩
 have hV:Vd l (inB b)=Vd l (H b.Revision):=by rw [hvi.inB]
 unfold qo;refine aN (wK hR (by omega) h) (aB (fun _=>aq ⟨h.le (by omega),hsv⟩) (fun _=>?_));have hvalid:nR t=some true:=by
  unfold nR;rw [hru,y4 hR h.lv.ok h.goals h.ng,aD,hst];rw [show ((0:Int)==0)=true from rfl,cond_true];have:gT l t.Base []=some true:=by
   unfold gT;rw [iA (r:=Fl.go ()) rfl]; rfl
  rw [this]; rfl
 refine aN hvalid ?_;simp only [im,cond_false];refine aN (v:=ao.mk t.Rules t.Base [] []) rfl ?_;have hs:py l (Vd l (inB b)) b (ao.mk t.Rules t.Base [] []):=⟨hru,hbase,fun n _ v e=>(by cases e),fun c=>rfl⟩;refine bK (Jc l (Vd l (inB b)) H b) (Jg l H b) 30 ⟨rfl,h,hs,hsv⟩ ?_ ?_
 ·rintro k ⟨n,t1,t2,t3,t4,t5,t6,t7,g1,g2,g3,g4,g5,g6⟩ hk ⟨rfl,q1,q2,q3⟩;dsimp only;unfold oz;refine aB (fun hlt=>?_) (fun _=>aq ⟨q1.le (by omega),q3⟩);have hlt:=of_decide_eq_true hlt;refine aJ (Fy hR hD hb q2 hV (by omega) q1 q3) fun y ⟨y1,y2,y3⟩=>aB (fun _=>aq ⟨q1.le (by omega),q3⟩) (fun _=>aB (fun _=>aq ⟨y1.le (by omega),y3⟩) (fun _=>?_));exact aq ⟨by omega,cR (by omega),y1,y2,y3⟩
 ·rintro (⟨n,t1,t2,t3,t4,t5,t6,t7⟩ | y) hr
  ·exact aq hr
  ·exact aq hr
theorem BJ (hR:a8 l) {N:Nat} {t:cI} (h:BE l b N t) (hN:N≤1000) (hsv:SV l H t.Base t.Stack):Ok (mc t) fun b'=>tn l b b'∧VI l H b' I6:=by
 have hl:=hR.high;have hb:=h.lv.ok;have hlen:=h.len;unfold mc;refine aN (tu (hb.rm hl).1 (hb.rm hl).2.1) ?_;refine bK (fun (k:Nat) (s:Int×List ad)=>s.1=k∧dt l (ai.mk t.Base.Revision t.Base.Inputs s.2)∧(∀ m∈s.2,m∈t.Base.Records)∧∀ f∈t.Stack.take k,gg f.Key=true→∀ m∈s.2,m.Key≠f.Key) (fun r=>dt l (ai.mk t.Base.Revision t.Base.Inputs r)∧(∀ m∈r,m∈t.Base.Records)∧∀ f∈t.Stack,gg f.Key=true→∀ m∈r,m.Key≠f.Key) t.Stack.length ⟨rfl,hb,fun m hm=>hm,fun f hf=>absurd hf (by simp)⟩ ?_ (fun r ⟨hr,hr2,hr3⟩=>aq ⟨⟨hr,h.lv.rev,h.lv.ins⟩,(hsv.vi.of (recs:=r) fun m hm=>⟨m,hr2 m hm,rfl,rfl,rfl,rfl,rfl⟩).weak fun x hx ⟨hp1,f,hf,e⟩ _=>hr3 f hf (e▸hp1) x hx e.symm⟩);rintro k ⟨i,recs⟩ hk ⟨rfl,g,g2,g3⟩;dsimp only at g g2 g3 ⊢;unfold lb;refine aB (fun hlt=>?_) (fun hlt=>aq ⟨g,g2,by rw [Bq (by have:=of_decide_eq_false hlt; omega)] at g3; exact g3⟩);have hlt:k<t.Stack.length:=by have:=of_decide_eq_true hlt; omega
 have tk:t.Stack.take (k+1)=t.Stack.take k++[t.Stack[k]]:=bM (bC hlt);refine aN (bE hlt) (aN (fP _) (aB (fun hc=>?_) (fun hc=>aq ⟨hlt,cR (by omega),g,g2,?_⟩)))
 ·have hrl:recs.length≤l.length:=g.nrec;refine aN (xh (by unfold Rm; omega) _) (aq ⟨hlt,cR (by omega),g.filter _,fun m hm=>g2 m (gc.1 hm).1,?_⟩);rw [tk];intro f hf hcf m hm;obtain⟨hm1,hm2⟩:=gc.1 hm;rcases cg.1 hf with hf | hf
  ·exact g3 f hf hcf m hm1
  ·rw [dq.1 hf];intro e;rw [dK.2 e] at hm2;cases hm2
 ·rw [tk];intro f hf hcf m hm;rcases cg.1 hf with hf | hf
  ·exact g3 f hf hcf m hm
  ·rw [dq.1 hf] at hcf ⊢;rw [hcf] at hc; cases hc
theorem Dp (hR:a8 l) (h:dt l b) (hh:vT l b) {budget:Int} (h1:0≤budget) (h2:budget≤1000):Ok (nS b budget []) fun y=>tn l b y.1∧vT l y.1:=by
 have hl:=hR.high;have hnr:=h.nrec;unfold nS;refine aN (ww h hl) ?_;rw [decide_eq_false (by omega),decide_eq_false (by omega)];simp only [im,cond_false];refine aN (tu (h.rm hl).1 (h.rm hl).2.1) (aJ (EZ (by omega)) fun o ho=>?_);refine bK (fun (k:Nat) (s:List ae×Int×List ad)=>s.2.1=k∧k≤o.length∧s.1.length≤k∧(dt l (ai.mk b.Revision b.Inputs s.2.2)∧∀ m∈s.2.2,m∈b.Records)) (fun r=>dt l (ai.mk b.Revision b.Inputs r.2)∧∀ m∈r.2,m∈b.Records) o.length ⟨rfl,ez _,ez _,h,fun m hm=>hm⟩ ?_ (fun r ⟨hr,hr2⟩=>aq ⟨⟨hr,rfl,rfl⟩,hh.sub hr2⟩);rintro k ⟨gone,g,recs⟩ hk ⟨rfl,_,hg,hb,hs⟩;dsimp only at hg hb hs ⊢;have hrl:recs.length≤l.length:=hb.nrec;unfold mh;refine aB (fun hlt=>?_) (fun _=>aq ⟨hb,hs⟩);have hlt:k<o.length:=by have:=of_decide_eq_true hlt; omega
 refine aN (bE hlt) (aJ (FA (by omega)) fun t _=>?_);have hj3:∀ q,Ok (gU gone (k:Int) recs o[k] q) fun y=>match y with
   | .go s=>k<o.length∧(s.2.1=((k+1:Nat):Int)∧k+1≤o.length∧s.1.length≤k+1∧(dt l (ai.mk b.Revision b.Inputs s.2.2)∧∀ m∈s.2.2,m∈b.Records))
   | .out r=>dt l (ai.mk b.Revision b.Inputs r.2)∧∀ m∈r.2,m∈b.Records:=fun q=>by
  unfold gU jS;refine aB (fun _=>aN (xh (by unfold Rm; omega) _) (eK (ey (by simp; omega)) (aq ⟨hlt,cR (by omega),hlt,by rw [cW]; simp; omega,hb.filter _,fun m hm=>hs m (gc.1 hm).1⟩))) (fun _=>aq ⟨hlt,cR (by omega),hlt,by show gone.length≤k+1; omega,hb,hs⟩)
 exact aB (fun _=>aN (vd (by unfold Rm; simp) _) ((hj3 _).mono fun y hy=>by cases y <;> exact hy)) (fun _=>(hj3 _).mono fun y hy=>by cases y <;> exact hy)
theorem Dy (hR:a8 l) (h:dt l b) (hh:vT l b) {d:List Int} {i:Int} (hd:bQ d i) {most:Int} (h1:0≤most) (h2:most≤1000) (h3:b.Revision≤1000):Ok (oY ⟨d,i⟩ l b most) fun y=>(dt l y.1∧vT l y.1)∧y.1.Revision≤b.Revision+most∧bQ y.2.L y.2.At:=by
 unfold oY;rw [oA (by omega) (by omega)];refine aJ (cU hd (by omega) (by omega)) fun y ⟨y1,y2,d1⟩=>?_;refine bK (fun (k:Nat) (s:Int×(List Int)×Int×Int×(List aT)×(List ad))=>s.1=y.1-k∧0≤s.1∧bQ s.2.1 s.2.2.1∧(dt l (ai.mk s.2.2.2.1 s.2.2.2.2.1 s.2.2.2.2.2)∧vT l (ai.mk s.2.2.2.1 s.2.2.2.2.1 s.2.2.2.2.2))∧s.2.2.2.1≤b.Revision+k) (fun r=>(dt l (ai.mk r.1 r.2.1 r.2.2.1)∧vT l (ai.mk r.1 r.2.1 r.2.2.1))∧r.1≤b.Revision+most∧bQ r.2.2.2.1 r.2.2.2.2) 2000 ⟨by simp,y1,d1,⟨h,hh⟩,by show b.Revision≤_; simp⟩ ?_ (fun r hr=>aq hr);rintro k ⟨c,d,i,rev,ins,recs⟩ hk ⟨g1,g2,g3,⟨g4,gH⟩,g5⟩;dsimp only at g1 g2 g3 g4 gH g5 ⊢;unfold nh;refine aB (fun hc=>?_) (fun _=>aq ⟨⟨g4,gH⟩,by show rev≤_; omega,g3⟩);have hc:=of_decide_eq_true hc;have hw:IntKind.i64.wrap (c-1)=c-1:=oA (by omega) (by omega);have hj2:∀ {d i rev' ins' recs'},bQ d i→(dt l (ai.mk rev' ins' recs')∧vT l (ai.mk rev' ins' recs'))→rev'≤rev+1→Ok (c8 c d i rev' ins' recs') fun y'=>match y' with
   | .go s=>k<2000∧(s.1=y.1-((k+1:Nat):Int)∧0≤s.1∧bQ s.2.1 s.2.2.1∧(dt l (ai.mk s.2.2.2.1 s.2.2.2.2.1 s.2.2.2.2.2)∧vT l (ai.mk s.2.2.2.1 s.2.2.2.2.1 s.2.2.2.2.2))∧s.2.2.2.1≤b.Revision+((k+1:Nat):Int))
   | .out r=>(dt l (ai.mk r.1 r.2.1 r.2.2.1)∧vT l (ai.mk r.1 r.2.1 r.2.2.1))∧r.1≤b.Revision+most∧bQ r.2.2.2.1 r.2.2.2.2:=by
  intro d i rev' ins' recs' q1 q2 q3;unfold c8;rw [hw];exact aq ⟨by omega,by show c-1=_; omega,by show 0≤c-1; omega,q1,q2,by show rev'≤_; omega⟩
 have hL:∀ {d i} {b':ai},bQ d i→(tn l (ai.mk rev ins recs) b'∧vT l b')→Ok (c8 c d i b'.Revision b'.Inputs b'.Records) fun y'=>match y' with
   | .go s=>k<2000∧(s.1=y.1-((k+1:Nat):Int)∧0≤s.1∧bQ s.2.1 s.2.2.1∧(dt l (ai.mk s.2.2.2.1 s.2.2.2.2.1 s.2.2.2.2.2)∧vT l (ai.mk s.2.2.2.1 s.2.2.2.2.1 s.2.2.2.2.2))∧s.2.2.2.1≤b.Revision+((k+1:Nat):Int))
   | .out r=>(dt l (ai.mk r.1 r.2.1 r.2.2.1)∧vT l (ai.mk r.1 r.2.1 r.2.2.1))∧r.1≤b.Revision+most∧bQ r.2.2.2.1 r.2.2.2.2:=fun q1 q2=>hj2 q1 ⟨q2.1.ok,q2.2⟩ (by have:=q2.1.rev; rw [this]; show rev≤rev+1; omega)
 refine aJ (cU g3 (by omega) (by omega)) fun w ⟨w1,w2,d2⟩=>?_;have hj4:∀ q,Ok (gj l c rev ins recs w q) fun y'=>match y' with
   | .go s=>k<2000∧(s.1=y.1-((k+1:Nat):Int)∧0≤s.1∧bQ s.2.1 s.2.2.1∧(dt l (ai.mk s.2.2.2.1 s.2.2.2.2.1 s.2.2.2.2.2)∧vT l (ai.mk s.2.2.2.1 s.2.2.2.2.1 s.2.2.2.2.2))∧s.2.2.2.1≤b.Revision+((k+1:Nat):Int))
   | .out r=>(dt l (ai.mk r.1 r.2.1 r.2.2.1)∧vT l (ai.mk r.1 r.2.1 r.2.2.1))∧r.1≤b.Revision+most∧bQ r.2.2.2.1 r.2.2.2.2:=fun q=>by
  unfold gj;refine aB (fun _=>?_) (fun _=>aB (fun _=>?_) (fun _=>aB (fun _=>?_) (fun _=>?_)))
  ·refine aJ (tr d2 (by omega) (by omega)) fun z ⟨z1,z2,d3⟩=>aJ (rN hR g4 gH (by show rev+1≤1000000; omega) z1 (by omega)) fun u ⟨u1,u2,u3,_⟩=>hj2 d3 ⟨u1,u3⟩ u2
  ·refine aJ (wS hR d2 (by omega) (by omega)) fun z ⟨z1,z2,d3⟩=>?_;obtain⟨t,ht,ht2,ht3⟩:=Fx hR g4 z1 z2;refine aN ht ?_;unfold ne;simp only [show ((0:Int)==0)=true from rfl,cond_true];refine aJ (cU d3 (by omega) (by omega)) fun u ⟨u1,u2,d4⟩=>by
    obtain⟨H,hvi⟩:=gH;exact aJ (DM hR g4 hvi ht2 ht3 (by omega)) fun t2 ⟨ht4,ht5⟩=>aJ (BJ hR ht4 (by omega) ht5) fun b2 ⟨hb2,hb3⟩=>hL d4 ⟨hb2,H,hb3⟩
  ·refine aJ (cU d2 (by omega) (by omega)) fun z ⟨z1,z2,d3⟩=>aB (fun _=>?_) (fun _=>hL d3 ⟨⟨g4,rfl,rfl⟩,gH⟩);exact aJ (cU d3 (by omega) (by omega)) fun u ⟨u1,u2,d4⟩=>aJ (Dp hR g4 gH u1 (by omega)) fun v hv=>hL d4 hv
  ·exact aJ (wS hR d2 (by omega) (by omega)) fun z ⟨z1,z2,d3⟩=>by
    obtain⟨H,hvi⟩:=gH;exact aJ (vJ hR g4 hvi z1 z2) fun u hu=>hL d3 ⟨hu.lv,H,hu.vi⟩
 exact aB (fun _=>(hj4 _).mono fun y hy=>by cases y <;> exact hy) (fun _=>aB (fun _=>(hj4 _).mono fun y hy=>by cases y <;> exact hy) (fun _=>(hj4 _).mono fun y hy=>by cases y <;> exact hy))
end
theorem Ea {d:List Int} {i:Int} (hd:bQ d i) {most:Int} (h1:0≤most) (h2:most≤900):Ok (qj ⟨d,i⟩ most) fun y=>a8 y.1∧(dt y.1 y.2.1∧vT y.1 y.2.1)∧y.2.1.Revision≤most+1∧bQ y.2.2.L y.2.2.At:=by
 unfold qj;refine aJ (Fk hd) fun y ⟨hR,d1⟩=>aJ (tr d1 (by omega) (by omega)) fun z ⟨z1,z2,d2⟩=>?_;have h0:dt y.1 (ai.mk 0 [] []):=⟨⟨by show (0:Int)≤0; omega,by show (0:Int)≤1000000; omega⟩,fun x hx=>absurd hx mA,vr,fun x hx=>absurd hx mA,vr⟩;have hH:vT y.1 (ai.mk 0 [] []):=⟨fun _ _=>⟨#[]⟩,fun _=>rfl,fun _ _ _ _=>rfl,fun m hm=>absurd hm mA,fun m hm=>absurd hm mA⟩;refine aJ (rN hR h0 hH (by show (0:Int)+1≤1000000; omega) z1 (by omega)) fun u ⟨u1,u2,u3,_⟩=>?_;have u2:u.1.Revision≤0+1:=u2;exact aJ (Dy hR u1 u3 d2 h1 (by omega) (by omega)) fun v ⟨v1,v2,d3⟩=>aq ⟨hR,v1,by show v.1.Revision≤most+1; omega,d3⟩
end
section
open Go.RowKit
open Go.Lib hiding intOf
theorem Dm {s:List ae} (h:Rm s.length):p9 s=some s:=by
 unfold p9 Rm at *;rw [show bL (([]:List ae).length+s.length)=true from ey (by simp; omega)]; rfl
theorem yn {s:List ad} (h:Rm s.length):jY s=some s:=by
 unfold jY Rm at *;rw [show bL (([]:List ad).length+s.length)=true from ey (by simp; omega)]; rfl
theorem E0 {r:ad} (h:Rm r.Reads.length):mM r=some r:=by
 unfold mM;rw [Dm h]; rfl
theorem Cr {l:List ad} (h:C9 l):lA l=some l:=by
 unfold lA;rw [yn h.1,aD];refine fo (d7 (xs:=l) (fun k=>(l,(k:Int))) rfl (r:=l) (fun k x hx=>?_) ?_) rfl
 ·unfold jv;dsimp only;rw [fC hx,cond_true,bf,hx,aD,E0 (h.2 x (aH hx)),cR (by have:=aW hx; have:=h.1; unfold Rm at this; omega)];simp only [aD,oe];rw [Fs hx]
 ·unfold jv;dsimp only;rw [bS]; rfl
theorem Dx (k:ae):oV k=some (gg k):=by
 unfold oV lU lY gg iO iz dw je;have hb:∀ n:Int,((k.Kind:Int)==n)=decide (k.Kind=n):=fun n=>by rw [Bool.eq_iff_iff]; simp
 rw [hb,hb,hb,hb,hb];by_cases h32:k.Kind=32
 ·simp [h32]
 ·by_cases h7:k.Kind=7
  ·simp [h7]
  ·by_cases h14:k.Kind=14
   ·simp [h14]
   ·by_cases h17:k.Kind=17
    ·simp [h17]
    ·by_cases h18:k.Kind=18
     ·simp [h18]
     ·simp only [h32,h7,h14,h17,h18,decide_false,Bool.or_false,cond_false];cases decide ((1:Int)≤k.Kind) <;> cases decide ((k.Kind:Int)≤22) <;> rfl
section
variable {l:List aI} {b:ai}
theorem GS {f:ae→Option Bool} {s:List ae} (hl:Rm s.length) (h:∀ x∈s,f x=some false):kF f s=some false:=by
 unfold Rm at hl;have e:oR f s=some (-1):=by
  unfold oR;refine fo (fG (r:=Fl.go ()) s.length (fun k hk=>?_) ?_) rfl
  ·unfold kG;rw [dlt hk,cond_true,bE hk,aD,h _ (iL hk),cR (by omega)]; rfl
  ·unfold kG;rw [bS]; rfl
 unfold kF;rw [e]; rfl
theorem GT {f:ad→Option Bool} {s:List ad} (hl:Rm s.length) (h:∀ x∈s,f x=some false):bA f s=some false:=by
 unfold Rm at hl;have e:c6 f s=some (-1):=by
  unfold c6;refine fo (fG (r:=Fl.go ()) s.length (fun k hk=>?_) ?_) rfl
  ·unfold cP;rw [dlt hk,cond_true,bE hk,aD,h _ (iL hk),cR (by omega)]; rfl
  ·unfold cP;rw [bS]; rfl
 unfold bA;rw [e]; rfl
theorem yL {n:Nat} (h:n<100):fF (rk l n)=some true:=by
 unfold rk;exact FF (by split <;> simp) h
theorem vx {n:Nat} (h:n<100):fF (cJ n)=some true:=EL h
theorem EM (k:ae):qi k=cm k:=rfl
theorem kB.kvalid (hl:l.length≤8) {k:ae} (h:kB l k):fF k=some true:=by
 rcases h with⟨c,hc,rfl⟩|⟨n,hn,rfl⟩
 ·exact vx (by omega)
 ·exact yL (by omega)
theorem E8 (hl:l.length≤8) {rev:Int} (hrev:rev≤1000000) {r:ad} (h:mB l rev r):lZ r=some true:=by
 obtain⟨n,hn,hk⟩:=h.key;have h3:=h.reads;have h4:=h.value;have h5:=h.low;have h6:=h.mid;have h7:=h.high;have h8:=h.cost;have hj:cO r false=some true:=by
  unfold cO;rw [cond_false,decide_eq_true (by omega),decide_eq_true (by omega),decide_eq_true (by omega),decide_eq_true (by omega),decide_eq_true (by omega)];simp only [cond_true];rw [GS (by unfold Rm; omega) fun x hx=>by unfold jw; rw [(h.good x hx).kvalid hl]; rfl]; rfl
 unfold lZ;rw [hk,yL (by omega),aD,EM,pj,aD,decide_eq_false (by omega),decide_eq_false (by omega)];simp only [im,cond_false];cases hd:r.Dirty with
 | false=>exact hj
 | true =>
  have:=h.dirty hd;rw [hk] at this;rw [cond_true,Dx,this];exact hj
theorem IX (h:dt l b) (hl:l.length≤8):gM b.Records=some true:=by
 have hn:=h.nrec;unfold gM;refine fo (fG (r:=Fl.go ()) b.Records.length (fun k hk=>?_) ?_) ?_
 ·unfold eG;rw [dlt hk,cond_true,bE hk,aD,E8 hl h.rev.2 (h.recs _ (iL hk)),aD];have hj:cT (k:Int) false=some (.go ((k+1:Nat):Int)):=by unfold cT; rw [cR (by omega)]; rfl
  simp only [im,cond_false];rcases vR k with h0 | h0
  ·subst h0;exact hj
  ·rw [decide_eq_true (by omega),cond_true,show IntKind.i64.wrap ((k:Int)-1)=((k-1:Nat):Int) by rw [oA (by omega) (by omega)]; omega,bE (show k-1<b.Records.length by omega),aD,BM,aD];have:=gw.1 h.recsA (k-1) k (by omega) hk (by omega);rw [decide_eq_false (by omega)];exact hj
 ·unfold eG;rw [bS]; rfl
 ·show some (decide ((b.Records.length:Int)≤4000))=some true;rw [decide_eq_true (by omega)]
theorem Fc {c:Nat} (hc:c<100):jU (cJ c)=some true:=by
 unfold jU;rw [vx hc,aD,cond_true,EM,mF]; rfl
theorem Fd (h:dt l b) (hl:l.length≤8):jT b=some true:=by
 have hn:=h.nrec;have hi:=h.nin;have hrev:=h.rev;unfold jT;rw [decide_eq_false (by omega),decide_eq_false (by omega),decide_eq_false (by omega),IX h hl];simp only [cond_false,aD,im];refine fo (fG (r:=Fl.go ()) b.Inputs.length (fun k hk=>?_) ?_) ?_
 ·have hx:=h.ins _ (iL hk);obtain⟨c,hc,hkey⟩:=hx.key;have h1:=hx.value;have h2:=hx.low;have h3:=hx.high;unfold f9;rw [dlt hk,cond_true,bE hk,aD,hkey,Fc (by omega),aD];have hj:bT (k:Int) false=some (.go ((k+1:Nat):Int)):=by unfold bT; rw [cR (by omega)]; rfl
  simp only [im,cond_false];rw [decide_eq_false (show ¬ (1073741824:Int)<(b.Inputs[k].Value.size:Int) by omega),decide_eq_false (show ¬ (b.Inputs[k].Changed:Int)<0 by omega),decide_eq_false (show ¬ (b.Revision:Int)<b.Inputs[k].Changed by omega)];rcases vR k with h0 | h0
  ·subst h0;exact hj
  ·rw [decide_eq_true (by omega),cond_true,show IntKind.i64.wrap ((k:Int)-1)=((k-1:Nat):Int) by rw [oA (by omega) (by omega)]; omega,bE (show k-1<b.Inputs.length by omega),aD,BM,aD];have:=gw.1 h.insA (k-1) k (by omega) hk (by omega);rw [hkey] at this;rw [decide_eq_false (by omega)];exact hj
 ·unfold f9;rw [bS]; rfl
 ·show f8 b=some true;unfold f8;rw [GT (by unfold Rm; omega) fun x hx=>by unfold gV; rw [decide_eq_false (by have:=(h.recs x hx).high; omega)]]; rfl
theorem GX (h:dt l b) (hl:l.length≤8):kS b=some b:=by
 have hi:=h.nin;unfold kS cK;rw [ey (by simp; omega),Cr (h.rm hl).1];simp [gd]
end
end
section
set_option maxRecDepth 100000
set_option maxHeartbeats 4000000
open Go.RowKit
noncomputable section
def ia (b:ad):Option Int:=some (IntKind.i64.wrap ((IntKind.i64.wrap ((IntKind.i64.wrap (16+(b.Key.Text.size:Int)))+(b.Value.size:Int)))+(IntKind.i64.wrap (8*(b.Reads.length:Int)))))
theorem nk (T:Nat→Prop) (W0:World) (hT:TW T W0) (b:ad) (d:Value) (c:aC ac T W0 d b.Reads) (y:Int) (hM:ia b=some y):a7 aO No 39 [.agg (aE b d).toArray] W0 (fun v w'=>v=al y):=by
 refine en Tryz.func39 Tryz.ntmps39 hT fun a hS=>?_;replace hS:=hS.fS (aC.dn c);unfold ia at hM;refine am hS fun a hS=>?_;refine kb hS fun e f a w hk hS=>?_;exact fz
def oO (b:Int):Option Int:=some (b)
def gD (d:LR) (c:Int) (b:Int):Option (Fl (Int×Int) (Int)):=cond (decide (b<(d.length:Int))) ((bk d b).bind fun e=>(ia e).bind fun f=>some (.go (IntKind.i64.wrap (c+f),IntKind.i64.wrap (b+1)))) (some (.out c))
def jo (b:LR):Option Int:=(loop (fun s:Int×Int=>gD b s.1 s.2) (0,0)).bind fun r=>oO r
theorem s4 (T:Nat→Prop) (W0:World) (hT:TW T W0) (d:LR) (i:Value) (n:aC aa T W0 i d) (y:Int) (hM:jo d=some y):a7 aO No 14 [i] W0 (fun v w'=>v=al y):=by
 refine en Tryz.func14 Tryz.ntmps14 hT fun a hS=>?_;replace hS:=hS.fS (aC.dn n);unfold jo at hM;refine am hS fun a hS=>?_;refine aK (J:=fun a w=>∃ (e:Int),St W0 No T 18 [(3,al e)] [] [] a w∧oO e=some y) ?_ ?_
 ·skip;refine am hS fun a hS=>?_;obtain⟨A,m,hMo1⟩:=bd hM;refine bx _ (fun s a w=>∃ (c:Int) (b:Int),(c,b)=s∧St W0 No T 18 [(3,al c),(6,i),(7,al (d.length:Int)),(8,al b)] [] [aL aa i d] a w) m ⟨_,_,rfl,hS.mt [] [0]⟩ ?_;rintro s a w r ⟨c,b,rfl,hS⟩ hM hf1;have hM:gD d c b=some r:=hM;unfold gD at hM;refine am hS fun a hS=>?_;refine ay ?_;rcases cd hM with⟨k,hM⟩|⟨k,hM⟩
  ·refine am hS fun a hS=>?_;refine ay ?_;refine am hS fun a hS=>?_;obtain⟨j,f,hM⟩:=bd hM;refine wl rfl (bu (R:=aa) hS dW bX rfl rfl 0 rfl f rfl fun o u q l a hS=>?_);obtain⟨z,rfl,h⟩:=l;replace hS:=hS.fS h;refine am hS fun a hS=>?_;refine ka hS dD fun p t a w hk hS=>?_;refine go hS fun a w hS=>?_;obtain⟨x,g,hM⟩:=bd hM;refine kc hS F8 (nk _ _ hS.dlt j _ (hS.get 0 rfl) _ g) fun _ w hR a hk hA=>?_;obtain rfl:=hR;have hS:=ce hA;exact fz
  exact fz
 rintro a w ⟨e,hS,hM⟩;unfold oO at hM;exact fz
def jc (b:LR):Option LR:=some (b)
def jd (c:Int) (b:LR):Option (Fl (LR×Int) (LR)):=some (.go (b,IntKind.i64.wrap (c+1)))
def du (j:Int) (e:ad→ad→Option Int) (c:LR) (b:Int):Option (Fl (LR×Int) (LR)):=cond (decide (j<b)) ((bk c b).bind fun f=>(bk c (IntKind.i64.wrap (b-1))).bind fun g=>(e f g).bind fun i=>cond (decide (i<0)) ((bk c (IntKind.i64.wrap (b-1))).bind fun d=>(bk c b).bind fun h=>(bk c b).bind fun k=>(bk (c.set (Int.toNat b) d) (IntKind.i64.wrap (b-1))).bind fun l=>some (.go (((c.set (Int.toNat b) d).set (Int.toNat (IntKind.i64.wrap (b-1))) h),IntKind.i64.wrap (b-1)))) (some (.out c))) (some (.out c))
def fQ (e:Int) (f:Int) (d:ad→ad→Option Int) (c:LR) (b:Int):Option (Fl (LR×Int) (LR)):=cond (decide (b<f)) ((loop (fun s:LR×Int=>du e d s.1 s.2) (c,b)).bind fun r=>jd b r) (some (.out c))
def jq (d:ad→ad→Option Int) (b:LR) (c:Int) (e:Int):Option LR:=(loop (fun s:LR×Int=>fQ c e d s.1 s.2) (b,IntKind.i64.wrap (c+1))).bind fun r=>jc r
theorem qd (T:Nat→Prop) (W0:World) (hT:TW T W0) (cmp_g:Nat) (K:aP aO cmp_g=true) (cmp_k:ba) (cmp_P:bG) (m:ad→ad→Option Int) (N:∀ (T:Nat→Prop) (W0:World) (hT:TW T W0) (hLv:dc T W0) (hP:cmp_P.p T W0) (x0:ad) (x1:ad) (a1:Value) (er:aC ac T W0 a1 x0.Reads) (a2:Value) (et:aC ac T W0 a2 x1.Reads) (y:Int) (hM:m x0 x1=some y),a7 aO No cmp_g ([.agg (aE x0 a1).toArray,.agg (aE x1 a2).toArray]++cmp_k) W0 (fun v w'=>v=al y)) (G:LR) (f:Int) (g:Int) (b:Value) (di:ba) (hD:tU T W0 [ah b di]) (e4:az aa (dT T [ah b di]) W0 di G) (hLv:dc (dT T [ah b di]) W0) (hPcmp_:cmp_P.p (dT T [ah b di]) W0) (y:LR) (hM:jq m G f g=some y):a7 aO (MD [ah b di]) 102 [b,al f,al g,.func (.func cmp_g) #[] cmp_k.toArray] W0 (fun v w'=>∃ (iN:ba),v = .tuple #[]∧lK W0 w' [ah b di] [ah b iN]∧az aa (dT T [ah b iN]) w' iN y):=by
 refine eL (c:=_) Tryz.func102 rfl T 53 Tryz.ntmps102 hT rfl hD fun a hS=>?_;replace hS:=((hS.fact cmp_P hPcmp_).fact br hLv).fR e4;unfold jq at hM;refine jg ?_;refine GJ hS fun a hS=>?_;refine xq (J:=fun a w=>∃ (A:LR) (j:LV),St W0 (MD [ah b di]) T 53 [] [ah b j] [an aa j A,br,cmp_P] a w∧jc A=some y) ?_ ?_
 ·skip;refine am hS fun a hS=>?_;obtain⟨r1,e2,hMo1⟩:=bd hM;refine bx _ (fun s a w=>∃ (o:LR) (d:Int) (u:LV),(o,d)=s∧St W0 (MD [ah b di]) T 53 [(0,b),(1,al f),(2,al g),(3,.func (.func cmp_g) #[] cmp_k.toArray),(8,al d)] [ah b u] [an aa u o,br,cmp_P] a w) e2 ⟨_,_,_,rfl,hS.mt [0] [0,1,2]⟩ ?_;rintro s a w f1 ⟨o,d,u,rfl,hS⟩ hM hf1;have hM:fQ f g m o d=some f1:=hM;unfold fQ at hM;refine ay ?_;refine am hS fun a hS=>?_;rcases cd hM with⟨b0,hM⟩|⟨b0,hM⟩
  ·refine am hS fun a hS=>?_;refine aK (J:=fun a w=>∃ (B:LR) (x:LV),St W0 (MD [ah b di]) T 53 [(0,b),(1,al f),(2,al g),(3,.func (.func cmp_g) #[] cmp_k.toArray),(8,al d)] [ah b x] [an aa x B,br,cmp_P] a w∧jd d B=some f1) ?_ ?_
   ·skip;refine am hS fun a hS=>?_;obtain⟨r2,e3,hMo2⟩:=bd hM;refine bx _ (fun s a w=>∃ (n:LR) (t:Int) (z:LV),(n,t)=s∧St W0 (MD [ah b di]) T 53 [(0,b),(1,al f),(2,al g),(3,.func (.func cmp_g) #[] cmp_k.toArray),(8,al d),(9,al t)] [ah b z] [an aa z n,br,cmp_P] a w) e3 ⟨_,_,_,rfl,hS.mt [0] [0,1,2]⟩ ?_;rintro s a w f2 ⟨n,t,z,rfl,hS⟩ hM hf2;have hM:du f m n t=some f2:=hM;unfold du at hM;refine ay ?_;refine ay ?_;refine dr [] hS fun w hQ hS=>?_;refine gE [0,1,2,3] hS fun a hS=>?_;rcases cd hM with⟨e,hM⟩|⟨e,hM⟩
    ·refine gE [4,5,6] hS fun a hS=>?_;obtain⟨C,O,hM⟩:=bd hM;obtain⟨a3,cv,ew,e5,b1,b2,b3,b4⟩:=bP (R:=aa) hS dW bX 0 rfl 0 rfl O;obtain⟨L,rfl,V⟩:=b1;replace hS:=hS.fS V;refine wO 7 (v:=pt a3 cv) rfl (by kernel_rfl) (by kernel_rfl) (by kernel_rfl) rfl hQ hS (b4 rfl rfl) rfl rfl rfl e rfl rfl fun a hS=>?_;refine wO (l:=[]) 8 (v:=.agg (aE C L).toArray) rfl (by kernel_rfl) (by kernel_rfl) (by kernel_rfl) (by kernel_rfl) hQ hS (bq (k:=0) hS bX 0 rfl b2 b3 rfl bn (us:=(aE C L)) rfl rfl (fun h=>by cases h)) rfl rfl rfl e rfl rfl fun a hS=>?_;refine gE [9,10,11] hS fun a hS=>?_;obtain⟨D,P,hM⟩:=bd hM;obtain⟨a4,d0,ex,e6,b5,b6,b8,b9⟩:=bP (R:=aa) hS dW bX 0 rfl 1 rfl P;obtain⟨M,rfl,W⟩:=b5;replace hS:=hS.fS W;refine wO 12 (v:=pt a4 d0) rfl (by kernel_rfl) (by kernel_rfl) (by kernel_rfl) rfl hQ hS (b9 rfl rfl) rfl rfl rfl e rfl rfl fun a hS=>?_;refine wO (l:=[]) 13 (v:=.agg (aE D M).toArray) rfl (by kernel_rfl) (by kernel_rfl) (by kernel_rfl) (by kernel_rfl) hQ hS (bq (k:=0) hS bX 0 rfl b6 b8 rfl bn (us:=(aE D M)) rfl rfl (fun h=>by cases h)) rfl rfl rfl e rfl rfl fun a hS=>?_;obtain⟨fl,U,hM⟩:=bd hM;refine cS (i:=14) rfl (by kernel_rfl) hS rfl rfl rfl e (qJ (cap:=cmp_k) hS rfl K rfl rfl (N _ _ hS.dlt (hS.get 3 rfl) (hS.get 4 rfl) C D _ (hS.get 1 rfl) _ (hS.get 0 rfl) _ U) fun _ w hR a hk hA=>⟨fA (hk),?_⟩);obtain rfl:=hR;have hS:=ce hA;refine gE [15,16] hS fun a hS=>?_;refine eD ?_;refine am hS fun a hS=>?_;rcases cd hM with⟨bb,hM⟩|⟨bb,hM⟩
     ·refine am hS fun a hS=>?_;refine ay ?_;refine am hS fun a hS=>?_;refine dr [(15,.blk (Value.ownBlock b)),(17,.blk (Value.ownBlock b))] hS fun w hQ hS=>?_;refine gE [0,1,2,3,4,5,6,7] hS fun a hS=>?_;obtain⟨q,Q,hM⟩:=bd hM;obtain⟨a5,d1,f3,ea,bi,bl,bs,bt⟩:=bP (R:=aa) hS dW bX 0 rfl 2 rfl Q;obtain⟨E,rfl,X⟩:=bi;replace hS:=hS.fS X;refine dy 8 (v:=pt a5 d1) rfl (by kernel_rfl) (by kernel_rfl) (by kernel_rfl) rfl hQ hS (bt rfl rfl) rfl rfl rfl fun a hS=>?_;refine dy (l:=[]) 9 (v:=.agg (aE q E).toArray) rfl (by kernel_rfl) (by kernel_rfl) (by kernel_rfl) (by kernel_rfl) hQ hS (bq (k:=0) hS bX 0 rfl bl bs rfl bn (us:=(aE q E)) rfl rfl (fun h=>by cases h)) rfl rfl rfl fun a hS=>?_;refine gE [10,11] hS fun a hS=>?_;obtain⟨r,S,hM⟩:=bd hM;obtain⟨a9,d2,f4,eb,c0,c1,c2,c3⟩:=bP (R:=aa) hS dW bX 0 rfl 3 rfl S;obtain⟨F,rfl,Y⟩:=c0;replace hS:=hS.fS Y;refine dy 12 (v:=pt a9 d2) rfl (by kernel_rfl) (by kernel_rfl) (by kernel_rfl) rfl hQ hS (c3 rfl rfl) rfl rfl rfl fun a hS=>?_;refine dy (l:=[]) 13 (v:=.agg (aE r F).toArray) rfl (by kernel_rfl) (by kernel_rfl) (by kernel_rfl) (by kernel_rfl) hQ hS (bq (k:=0) hS bX 0 rfl c1 c2 rfl bn (us:=(aE r F)) rfl rfl (fun h=>by cases h)) rfl rfl rfl fun a hS=>?_;obtain⟨ak,H,hM⟩:=bd hM;obtain⟨af,d3,f5,ed,c4,c5,c9,ca⟩:=bP (R:=aa) hS dW bX 0 rfl 4 rfl H;obtain⟨d6,rfl,Z⟩:=c4;replace hS:=hS.fS Z;refine dy 14 (v:=pt af d3) rfl (by kernel_rfl) (by kernel_rfl) (by kernel_rfl) rfl hQ hS (ca rfl rfl) rfl rfl rfl fun a hS=>?_;refine e1 15 (fT (R:=aa) (k:=0) (cs:=(aE ak d6)) (us:=(aE q E)) (x':=q) hS rfl rfl rfl bX 0 rfl 5 rfl c5 c9 H (⟨_,rfl,(hS.get 0 rfl)⟩) rfl rfl (⟨_,rfl,(hS.get 2 rfl)⟩) fun ei w hk hS=>⟨ij rfl hk gt,?_⟩);obtain⟨av,I,hM⟩:=bd hM;obtain⟨ag,d4,fd,el,ch,ck,cl,co⟩:=bP (R:=aa) hS dW bX 0 rfl 0 rfl I;obtain⟨dl,rfl,a0⟩:=ch;replace hS:=hS.fS a0;refine dy 16 (v:=pt ag d4) rfl (by kernel_rfl) (by kernel_rfl) (by kernel_rfl) rfl hQ hS (co rfl rfl) rfl rfl rfl fun a hS=>?_;refine e1 17 (fT (R:=aa) (k:=0) (cs:=(aE av dl)) (us:=(aE r F)) (x':=r) hS rfl rfl rfl bX 0 rfl 1 rfl ck cl I (⟨_,rfl,(hS.get 0 rfl)⟩) rfl rfl (⟨_,rfl,(hS.get 3 rfl)⟩) fun ep w hk hS=>⟨ij rfl hk gt,?_⟩);refine eD ?_;exact fz
     exact fz
    refine gE [4,5,6,7,8,9,10,11,12,13,14,15,16] hS fun a hS=>?_;refine eD ?_;exact fz
   rintro a w ⟨B,x,hS,hM⟩;unfold jd at hM;exact fz
  exact fz
 rintro a w ⟨A,j,hS,hM⟩;unfold jc at hM;refine xV ?_;cases hM
 refine aG hS Tryz.results102 aF ?_;have hZ:=hS.sl [0] [0];exact⟨j,rfl,hZ.dnew,(hZ.get 0 rfl)⟩
def qZ (b:LR):Option LR:=some (b)
def q8 (d:Int) (e:Int) (h:Int) (c:LR) (b:Int):Option (Fl (LR×Int) (LR)):=cond (decide (b<h)) ((bk c (IntKind.i64.wrap (e+b))).bind fun f=>(bk c (IntKind.i64.wrap (d+b))).bind fun g=>(bk c (IntKind.i64.wrap (d+b))).bind fun i=>(bk (c.set (Int.toNat (IntKind.i64.wrap (d+b))) f) (IntKind.i64.wrap (e+b))).bind fun j=>some (.go (((c.set (Int.toNat (IntKind.i64.wrap (d+b))) f).set (Int.toNat (IntKind.i64.wrap (e+b))) g),IntKind.i64.wrap (b+1)))) (some (.out c))
def qu (f:ad→ad→Option Int) (b:LR) (c:Int) (d:Int) (e:Int):Option LR:=(loop (fun s:LR×Int=>q8 c d e s.1 s.2) (b,0)).bind fun r=>qZ r
theorem sf (T:Nat→Prop) (W0:World) (hT:TW T W0) (cmp_g:Nat) (b6:aP aO cmp_g=true) (cmp_k:ba) (cmp_P:bG) (A:ad→ad→Option Int) (bb:∀ (T:Nat→Prop) (W0:World) (hT:TW T W0) (hLv:dc T W0) (hP:cmp_P.p T W0) (x0:ad) (x1:ad) (H:Value) (c3:aC ac T W0 H x0.Reads) (I:Value) (c4:aC ac T W0 I x1.Reads) (y:Int) (hM:A x0 x1=some y),a7 aO No cmp_g ([.agg (aE x0 H).toArray,.agg (aE x1 I).toArray]++cmp_k) W0 (fun v w'=>v=al y)) (t:LR) (q:Int) (r:Int) (z:Int) (b:Value) (di:ba) (hD:tU T W0 [ah b di]) (b9:az aa (dT T [ah b di]) W0 di t) (hLv:dc (dT T [ah b di]) W0) (hPcmp_:cmp_P.p (dT T [ah b di]) W0) (y:LR) (hM:qu A t q r z=some y):a7 aO (MD [ah b di]) 146 [b,al q,al r,al z,.func (.func cmp_g) #[] cmp_k.toArray] W0 (fun v w'=>∃ (iN:ba),v = .tuple #[]∧lK W0 w' [ah b di] [ah b iN]∧az aa (dT T [ah b iN]) w' iN y):=by
 refine eL (c:=_) Tryz.func146 rfl T 38 Tryz.ntmps146 hT rfl hD fun a hS=>?_;replace hS:=((hS.fact cmp_P hPcmp_).fact br hLv).fR b9;unfold qu at hM;refine jg ?_;refine GJ hS fun a hS=>?_;refine xq (J:=fun a w=>∃ (m:LR) (d:LV),St W0 (MD [ah b di]) T 38 [] [ah b d] [an aa d m,br,cmp_P] a w∧qZ m=some y) ?_ ?_
 ·skip;refine am hS fun a hS=>?_;obtain⟨r1,b8,hMo1⟩:=bd hM;refine bx _ (fun s a w=>∃ (e:LR) (i:Int) (j:LV),(e,i)=s∧St W0 (MD [ah b di]) T 38 [(0,b),(1,al q),(2,al r),(3,al z),(10,al i)] [ah b j] [an aa j e,br,cmp_P] a w) b8 ⟨_,_,_,rfl,hS.mt [0] [0,1,2]⟩ ?_;rintro s a w f1 ⟨e,i,j,rfl,hS⟩ hM hf1;have hM:q8 q r z e i=some f1:=hM;unfold q8 at hM;refine ay ?_;refine am hS fun a hS=>?_;rcases cd hM with⟨Q,hM⟩|⟨Q,hM⟩
  ·refine am hS fun a hS=>?_;refine ay ?_;refine am hS fun a hS=>?_;refine dr [(21,.blk (Value.ownBlock b)),(23,.blk (Value.ownBlock b))] hS fun w hQ hS=>?_;refine gE [0,1,2,3,4,5,6,7,8,9,10,11] hS fun a hS=>?_;obtain⟨f,B,hM⟩:=bd hM;obtain⟨K,ak,c5,bi,S,U,V,W⟩:=bP (R:=aa) hS dW bX 0 rfl 0 rfl B;obtain⟨n,rfl,D⟩:=S;replace hS:=hS.fS D;refine dy 12 (v:=pt K ak) rfl (by kernel_rfl) (by kernel_rfl) (by kernel_rfl) rfl hQ hS (W rfl rfl) rfl rfl rfl fun a hS=>?_;refine dy (l:=[]) 13 (v:=.agg (aE f n).toArray) rfl (by kernel_rfl) (by kernel_rfl) (by kernel_rfl) (by kernel_rfl) hQ hS (bq (k:=0) hS bX 0 rfl U V rfl bn (us:=(aE f n)) rfl rfl (fun h=>by cases h)) rfl rfl rfl fun a hS=>?_;refine gE [14,15,16,17] hS fun a hS=>?_;obtain⟨g,C,hM⟩:=bd hM;obtain⟨L,av,c9,bl,X,Y,Z,a0⟩:=bP (R:=aa) hS dW bX 0 rfl 1 rfl C;obtain⟨o,rfl,E⟩:=X;replace hS:=hS.fS E;refine dy 18 (v:=pt L av) rfl (by kernel_rfl) (by kernel_rfl) (by kernel_rfl) rfl hQ hS (a0 rfl rfl) rfl rfl rfl fun a hS=>?_;refine dy (l:=[]) 19 (v:=.agg (aE g o).toArray) rfl (by kernel_rfl) (by kernel_rfl) (by kernel_rfl) (by kernel_rfl) hQ hS (bq (k:=0) hS bX 0 rfl Y Z rfl bn (us:=(aE g o)) rfl rfl (fun h=>by cases h)) rfl rfl rfl fun a hS=>?_;obtain⟨O,u,hM⟩:=bd hM;obtain⟨M,b0,ca,bs,a1,a2,a3,a4⟩:=bP (R:=aa) hS dW bX 0 rfl 2 rfl u;obtain⟨b2,rfl,F⟩:=a1;replace hS:=hS.fS F;refine dy 20 (v:=pt M b0) rfl (by kernel_rfl) (by kernel_rfl) (by kernel_rfl) rfl hQ hS (a4 rfl rfl) rfl rfl rfl fun a hS=>?_;refine e1 21 (fT (R:=aa) (k:=0) (cs:=(aE O b2)) (us:=(aE f n)) (x':=f) hS rfl rfl rfl bX 0 rfl 3 rfl a2 a3 u (⟨_,rfl,(hS.get 0 rfl)⟩) rfl rfl (⟨_,rfl,(hS.get 2 rfl)⟩) fun bt w hk hS=>⟨ij rfl hk gt,?_⟩);obtain⟨P,x,hM⟩:=bd hM;obtain⟨N,b1,ch,c0,a5,a9,af,ag⟩:=bP (R:=aa) hS dW bX 0 rfl 0 rfl x;obtain⟨b3,rfl,G⟩:=a5;replace hS:=hS.fS G;refine dy 22 (v:=pt N b1) rfl (by kernel_rfl) (by kernel_rfl) (by kernel_rfl) rfl hQ hS (ag rfl rfl) rfl rfl rfl fun a hS=>?_;refine e1 23 (fT (R:=aa) (k:=0) (cs:=(aE P b3)) (us:=(aE g o)) (x':=g) hS rfl rfl rfl bX 0 rfl 1 rfl a9 af x (⟨_,rfl,(hS.get 0 rfl)⟩) rfl rfl (⟨_,rfl,(hS.get 3 rfl)⟩) fun c1 w hk hS=>⟨ij rfl hk gt,?_⟩);refine eD ?_;exact fz
  exact fz
 rintro a w ⟨m,d,hS,hM⟩;unfold qZ at hM;refine xV ?_;cases hM
 refine aG hS Tryz.results146 aF ?_;have hZ:=hS.sl [0] [0];exact⟨d,rfl,hZ.dnew,(hZ.get 0 rfl)⟩
def sM (c:Int) (d:ad→ad→Option Int) (e:LR) (b:Int):Option LR:=(qu d e (IntKind.i64.wrap (c-b)) c b).bind fun f=>some (f)
def vj (e:Int) (f:ad→ad→Option Int) (d:LR) (b:Int) (c:Int):Option (Fl (LR×Int×Int) (LR×Int)):=cond (b != c) (cond (decide (c<b)) ((qu f d (IntKind.i64.wrap (e-b)) e c).bind fun g=>some (.go (g,IntKind.i64.wrap (b-c),c))) ((qu f d (IntKind.i64.wrap (e-b)) (IntKind.i64.wrap ((IntKind.i64.wrap (e+c))-b)) b).bind fun h=>some (.go (h,b,IntKind.i64.wrap (c-b))))) (some (.out (d,b)))
def B5 (c:ad→ad→Option Int) (d:LR) (e:Int) (b:Int) (f:Int):Option LR:=(loop (fun s:LR×Int×Int=>vj b c s.1 s.2.1 s.2.2) (d,IntKind.i64.wrap (b-e),IntKind.i64.wrap (f-b))).bind fun r=>sM b c r.1 r.2
theorem Fi (T:Nat→Prop) (W0:World) (hT:TW T W0) (cmp_g:Nat) (i:aP aO cmp_g=true) (cmp_k:ba) (cmp_P:bG) (e:ad→ad→Option Int) (l:∀ (T:Nat→Prop) (W0:World) (hT:TW T W0) (hLv:dc T W0) (hP:cmp_P.p T W0) (L:ad) (M:ad) (C:Value) (S:aC ac T W0 C L.Reads) (D:Value) (U:aC ac T W0 D M.Reads) (y:Int) (hM:e L M=some y),a7 aO No cmp_g ([.agg (aE L C).toArray,.agg (aE M D).toArray]++cmp_k) W0 (fun v w'=>v=al y)) (o:LR) (A:Int) (b:Int) (B:Int) (g:Value) (di:ba) (hD:tU T W0 [ah g di]) (O:az aa (dT T [ah g di]) W0 di o) (hLv:dc (dT T [ah g di]) W0) (hPcmp_:cmp_P.p (dT T [ah g di]) W0) (y:LR) (hM:B5 e o A b B=some y):a7 aO (MD [ah g di]) 126 [g,al A,al b,al B,.func (.func cmp_g) #[] cmp_k.toArray] W0 (fun v w'=>∃ (iN:ba),v = .tuple #[]∧lK W0 w' [ah g di] [ah g iN]∧az aa (dT T [ah g iN]) w' iN y):=by
 refine eL (c:=_) Tryz.func126 rfl T 58 Tryz.ntmps126 hT rfl hD fun a hS=>?_;replace hS:=((hS.fact cmp_P hPcmp_).fact br hLv).fR O;unfold B5 at hM;refine am hS fun a hS=>?_;refine aK (J:=fun a w=>∃ (k:LR) (j:Int) (m:LV),St W0 (MD [ah g di]) T 58 [(0,g),(2,al b),(4,.func (.func cmp_g) #[] cmp_k.toArray),(10,al j)] [ah g m] [an aa m k,br,cmp_P] a w∧sM b e k j=some y) ?_ ?_
 ·skip;refine am hS fun a hS=>?_;obtain⟨Y,N,hMo1⟩:=bd hM;refine bx _ (fun s a w=>∃ (f:LR) (d:Int) (h:Int) (n:LV),(f,d,h)=s∧St W0 (MD [ah g di]) T 58 [(0,g),(2,al b),(4,.func (.func cmp_g) #[] cmp_k.toArray),(10,al d),(11,al h)] [ah g n] [an aa n f,br,cmp_P] a w) N ⟨_,_,_,_,rfl,hS.mt [0] [0,1,2]⟩ ?_;rintro s a w R ⟨f,d,h,n,rfl,hS⟩ hM hf1;have hM:vj b e f d h=some R:=hM;unfold vj at hM;refine ay ?_;refine am hS fun a hS=>?_;rcases cd hM with⟨F,hM⟩|⟨F,hM⟩
  ·refine am hS fun a hS=>?_;rcases cd hM with⟨G,hM⟩|⟨G,hM⟩
   ·refine am hS fun a hS=>?_;obtain⟨W,x,hM⟩:=bd hM;replace hS:=hS.re [0] [];refine wl rfl (bv hS Ep rfl rfl (sf _ _ hS.dltD cmp_g i cmp_k cmp_P e l f (IntKind.i64.wrap (b-d)) b h _ _ hS.dok (hS.getD 0 rfl) (hS.getD 1 rfl) (hS.getD 2 rfl) _ x) fun _ w hR a hk hA=>?_);obtain⟨P,he,H,q⟩:=hR;obtain rfl:=he.symm;have hS:=hA _ H;replace hS:=hS.fR (q.keep (aj _ _) (ap _));exact fz
   refine am hS fun a hS=>?_;obtain⟨X,z,hM⟩:=bd hM;replace hS:=hS.re [0] [];refine wl rfl (bv hS Ep rfl rfl (sf _ _ hS.dltD cmp_g i cmp_k cmp_P e l f (IntKind.i64.wrap (b-d)) (IntKind.i64.wrap ((IntKind.i64.wrap (b+h))-d)) d _ _ hS.dok (hS.getD 0 rfl) (hS.getD 1 rfl) (hS.getD 2 rfl) _ z) fun _ w hR a hk hA=>?_);obtain⟨Q,he,I,r⟩:=hR;obtain rfl:=he.symm;have hS:=hA _ I;replace hS:=hS.fR (r.keep (aj _ _) (ap _));exact fz
  refine am hS fun a hS=>?_;cases hM
  have hr:=hf1 _ rfl;subst hr;have hM:sM b e f d=some y:=hMo1;exact⟨_,_,_,hS.mt [0] [0,1,2],hM⟩
 rintro a w ⟨k,j,m,hS,hM⟩;unfold sM at hM;refine am hS fun a hS=>?_;obtain⟨V,u,hM⟩:=bd hM;replace hS:=hS.re [0] [];refine wl rfl (bv hS Ep rfl rfl (sf _ _ hS.dltD cmp_g i cmp_k cmp_P e l k (IntKind.i64.wrap (b-j)) b j _ _ hS.dok (hS.getD 0 rfl) (hS.getD 1 rfl) (hS.getD 2 rfl) _ u) fun _ w hR a hk hA=>?_);obtain⟨E,he,K,t⟩:=hR;obtain rfl:=he.symm;have hS:=hA _ K;replace hS:=hS.fR (t.keep (aj _ _) (ap _));refine am hS fun a hS=>?_;refine xV ?_;cases hM
 refine aG hS Tryz.results126 aF ?_;have hZ:=hS.sl [0] [0];exact⟨E,rfl,hZ.dnew,(hZ.get 0 rfl)⟩
def xn (srec:(ad→ad→Option Int)→LR→Int→Int→Int→Option LR):Prop:=∀ (T:Nat→Prop) (W0:World) (hT:∀ k,T k→k<W0.heap.size) (x4_g:Nat) (o:aP aO x4_g=true) (x4_k:ba) (x4_P:bG) (n:ad→ad→Option Int) (t:∀ (T:Nat→Prop) (W0:World) (hT:∀ k,T k→k<W0.heap.size) (hLv:dc T W0) (hP:x4_P.p T W0) (d:ad) (e:ad) (g:Value) (q:aC ac T W0 g d.Reads) (h:Value) (r:aC ac T W0 h e.Reads) (y:Int) (hM:n d e=some y),a7 aO No x4_g ([.agg #[al d.Key.Kind,aZ d.Key.Text,aZ d.Value,g,al d.Changed,al d.Verified,al d.Cost,.bool d.Dirty],.agg #[al e.Key.Kind,aZ e.Key.Text,aZ e.Value,h,al e.Changed,al e.Verified,al e.Cost,.bool e.Dirty]]++x4_k) W0 (fun v w'=>v=al y)) (i:LR) (j:Int) (l:Int) (m:Int) (c:Value) (b:ba) (hD:tU T W0 [.own c 33 aa.size b]) (s:az aa (dT T [.own c 33 aa.size b]) W0 b i) (hLv:dc (dT T [.own c 33 aa.size b]) W0) (hPx4_:x4_P.p (dT T [.own c 33 aa.size b]) W0) (y:LR) (hM:srec n i j l m=some y),a7 aO (MD [.own c 33 aa.size b]) 103 [c,al j,al l,al m,.func (.func x4_g) #[] x4_k.toArray] W0 (fun v w'=>∃ (f:ba),v = .tuple #[]∧lK W0 w' [.own c 33 aa.size b] [.own c 33 aa.size f]∧az aa (dT T [.own c 33 aa.size f]) w' f y)
def pG (srec:(ad→ad→Option Int)→LR→Int→Int→Int→Option LR) (d:Int) (i:Int) (b:Int) (e:ad→ad→Option Int) (g:Int) (c:LR) (f:Bool):Option LR:=cond f ((srec e c (IntKind.i64.wrap (fy .u64 (IntKind.u64.wrap (IntKind.i64.wrap (d+b))) 1)) (IntKind.i64.wrap ((IntKind.i64.wrap ((IntKind.i64.wrap (fy .u64 (IntKind.u64.wrap (IntKind.i64.wrap (d+b))) 1))+i))-g)) b).bind fun h=>some (h)) (some (c))
def pH (srec:(ad→ad→Option Int)→LR→Int→Int→Int→Option LR) (d:Int) (e:Int) (b:Int) (f:ad→ad→Option Int) (c:Int) (g:LR):Option LR:=cond (decide ((IntKind.i64.wrap (fy .u64 (IntKind.u64.wrap (IntKind.i64.wrap (d+b))) 1):Int)<(IntKind.i64.wrap ((IntKind.i64.wrap ((IntKind.i64.wrap (fy .u64 (IntKind.u64.wrap (IntKind.i64.wrap (d+b))) 1))+e))-c)))) (pG srec d e b f c g (decide ((IntKind.i64.wrap ((IntKind.i64.wrap ((IntKind.i64.wrap (fy .u64 (IntKind.u64.wrap (IntKind.i64.wrap (d+b))) 1))+e))-c):Int)<b))) (pG srec d e b f c g false)
def pI (srec:(ad→ad→Option Int)→LR→Int→Int→Int→Option LR) (d:Int) (g:Int) (e:Int) (b:ad→ad→Option Int) (c:Int) (f:LR) (h:Bool):Option LR:=cond h ((srec b f d c (IntKind.i64.wrap (fy .u64 (IntKind.u64.wrap (IntKind.i64.wrap (d+e))) 1))).bind fun i=>pH srec d g e b c i) (pH srec d g e b c f)
def pJ (srec:(ad→ad→Option Int)→LR→Int→Int→Int→Option LR) (c:Int) (g:Int) (d:Int) (e:ad→ad→Option Int) (b:Int) (f:LR):Option LR:=cond (decide (c<b)) (pI srec c g d e b f (decide (b<(IntKind.i64.wrap (fy .u64 (IntKind.u64.wrap (IntKind.i64.wrap (c+d))) 1))))) (pI srec c g d e b f false)
def pK (srec:(ad→ad→Option Int)→LR→Int→Int→Int→Option LR) (d:LR) (f:Int) (e:Int) (g:Int) (c:ad→ad→Option Int) (b:Int) (h:Bool):Option LR:=cond h ((B5 c d b e (IntKind.i64.wrap ((IntKind.i64.wrap ((IntKind.i64.wrap (fy .u64 (IntKind.u64.wrap (IntKind.i64.wrap (f+g))) 1))+e))-b))).bind fun i=>pJ srec f e g c b i) (pJ srec f e g c b d)
def sg (srec:(ad→ad→Option Int)→LR→Int→Int→Int→Option LR) (d:LR) (e:Int) (c:Int) (f:Int) (g:ad→ad→Option Int) (b:Int):Option LR:=cond (decide (b<c)) (pK srec d e c f g b (decide (c<(IntKind.i64.wrap ((IntKind.i64.wrap ((IntKind.i64.wrap (fy .u64 (IntKind.u64.wrap (IntKind.i64.wrap (e+f))) 1))+c))-b))))) (pK srec d e c f g b false)
def si (d:LR) (i:Int) (k:Int) (j:Int) (e:ad→ad→Option Int) (b:Int) (c:Int):Option (Fl (Int×Int) (Int)):=cond (decide (b<c)) ((bk d (IntKind.i64.wrap ((IntKind.i64.wrap ((IntKind.i64.wrap ((IntKind.i64.wrap (fy .u64 (IntKind.u64.wrap (IntKind.i64.wrap (i+j))) 1))+k))-1))-(IntKind.i64.wrap (fy .u64 (IntKind.u64.wrap (IntKind.i64.wrap (b+c))) 1))))).bind fun f=>(bk d (IntKind.i64.wrap (fy .u64 (IntKind.u64.wrap (IntKind.i64.wrap (b+c))) 1))).bind fun g=>(e f g).bind fun h=>cond (!(decide (h<0))) (some (.go (IntKind.i64.wrap ((IntKind.i64.wrap (fy .u64 (IntKind.u64.wrap (IntKind.i64.wrap (b+c))) 1))+1),c))) (some (.go (b,IntKind.i64.wrap (fy .u64 (IntKind.u64.wrap (IntKind.i64.wrap (b+c))) 1))))) (some (.out b))
def pL (srec:(ad→ad→Option Int)→LR→Int→Int→Int→Option LR) (b:LR) (d:Int) (f:Int) (e:Int) (c:ad→ad→Option Int) (h:Int) (g:Int):Option LR:=(loop (fun s:Int×Int=>si b d f e c s.1 s.2) (h,g)).bind fun r=>sg srec b d f e c r
def sh (srec:(ad→ad→Option Int)→LR→Int→Int→Int→Option LR) (e:LR) (b:Int) (d:Int) (c:Int) (f:ad→ad→Option Int):Option LR:=cond (decide ((IntKind.i64.wrap (fy .u64 (IntKind.u64.wrap (IntKind.i64.wrap (b+c))) 1):Int)<d)) (pL srec e b d c f (IntKind.i64.wrap ((IntKind.i64.wrap ((IntKind.i64.wrap (fy .u64 (IntKind.u64.wrap (IntKind.i64.wrap (b+c))) 1))+d))-c)) (IntKind.i64.wrap (fy .u64 (IntKind.u64.wrap (IntKind.i64.wrap (b+c))) 1))) (pL srec e b d c f b d)
def q9 (b:LR):Option LR:=some (b)
def ri (f:Int) (c:LR) (b:Int):Option (Fl (LR×Int) (LR)):=cond (decide (f<b)) ((bk c (IntKind.i64.wrap (b-1))).bind fun d=>(bk c b).bind fun e=>(bk c b).bind fun g=>(bk (c.set (Int.toNat b) d) (IntKind.i64.wrap (b-1))).bind fun h=>some (.go (((c.set (Int.toNat b) d).set (Int.toNat (IntKind.i64.wrap (b-1))) e),IntKind.i64.wrap (b-1)))) (some (.out c))
def rb (b:LR) (d:Int) (c:Int):Option LR:=(loop (fun s:LR×Int=>ri c s.1 s.2) (b,d)).bind fun r=>q9 r
def rj (d:LR) (i:Int) (e:ad→ad→Option Int) (b:Int) (c:Int):Option (Fl (Int×Int) (Int)):=cond (decide (b<c)) ((bk d i).bind fun f=>(bk d (IntKind.i64.wrap (fy .u64 (IntKind.u64.wrap (IntKind.i64.wrap (b+c))) 1))).bind fun g=>(e f g).bind fun h=>cond (!(decide (h<0))) (some (.go (IntKind.i64.wrap ((IntKind.i64.wrap (fy .u64 (IntKind.u64.wrap (IntKind.i64.wrap (b+c))) 1))+1),c))) (some (.go (b,IntKind.i64.wrap (fy .u64 (IntKind.u64.wrap (IntKind.i64.wrap (b+c))) 1))))) (some (.out b))
def rc (srec:(ad→ad→Option Int)→LR→Int→Int→Int→Option LR) (b:LR) (e:Int) (c:Int) (f:Int) (d:ad→ad→Option Int):Option LR:=cond ((IntKind.i64.wrap (f-c):Int)==1) ((loop (fun s:Int×Int=>rj b c d s.1 s.2) (e,c)).bind fun r=>rb b c r) (sh srec b e c f d)
def rf (b:LR):Option LR:=some (b)
def ro (f:Int) (c:LR) (b:Int):Option (Fl (LR×Int) (LR)):=cond (decide (b<(IntKind.i64.wrap (f-1)))) ((bk c (IntKind.i64.wrap (b+1))).bind fun d=>(bk c b).bind fun e=>(bk c b).bind fun g=>(bk (c.set (Int.toNat b) d) (IntKind.i64.wrap (b+1))).bind fun h=>some (.go (((c.set (Int.toNat b) d).set (Int.toNat (IntKind.i64.wrap (b+1))) e),IntKind.i64.wrap (b+1)))) (some (.out c))
def rh (b:LR) (d:Int) (c:Int):Option LR:=(loop (fun s:LR×Int=>ro c s.1 s.2) (b,d)).bind fun r=>rf r
def rp (d:LR) (i:Int) (e:ad→ad→Option Int) (b:Int) (c:Int):Option (Fl (Int×Int) (Int)):=cond (decide (b<c)) ((bk d (IntKind.i64.wrap (fy .u64 (IntKind.u64.wrap (IntKind.i64.wrap (b+c))) 1))).bind fun f=>(bk d i).bind fun g=>(e f g).bind fun h=>cond (decide (h<0)) (some (.go (IntKind.i64.wrap ((IntKind.i64.wrap (fy .u64 (IntKind.u64.wrap (IntKind.i64.wrap (b+c))) 1))+1),c))) (some (.go (b,IntKind.i64.wrap (fy .u64 (IntKind.u64.wrap (IntKind.i64.wrap (b+c))) 1))))) (some (.out b))
def uF (d:ad→ad→Option Int) (srec:(ad→ad→Option Int)→LR→Int→Int→Int→Option LR) (b:LR) (c:Int) (e:Int) (f:Int):Option LR:=cond ((IntKind.i64.wrap (e-c):Int)==1) ((loop (fun s:Int×Int=>rp b c d s.1 s.2) (e,f)).bind fun r=>rh b c r) (rc srec b c e f d)
theorem B8 (T:Nat→Prop) (W0:World) (hT:TW T W0) (cmp_g:Nat) (m:aP aO cmp_g=true) (cmp_k:ba) (cmp_P:bG) (j:ad→ad→Option Int) (n:∀ (T:Nat→Prop) (W0:World) (hT:TW T W0) (hLv:dc T W0) (hP:cmp_P.p T W0) (x0:ad) (x1:ad) (el:Value) (of:aC ac T W0 el x0.Reads) (ep:Value) (oi:aC ac T W0 ep x1.Reads) (y:Int) (hM:j x0 x1=some y),a7 aO No cmp_g ([.agg (aE x0 el).toArray,.agg (aE x1 ep).toArray]++cmp_k) W0 (fun v w'=>v=al y)) (srec:(ad→ad→Option Int)→LR→Int→Int→Int→Option LR) (hsrec:xn srec) (f:LR) (b:Int) (g:Int) (d:Int) (e:Value) (di:ba) (hD:tU T W0 [ah e di]) (m1:az aa (dT T [ah e di]) W0 di f) (hLv:dc (dT T [ah e di]) W0) (hPcmp_:cmp_P.p (dT T [ah e di]) W0) (y:LR) (hM:uF j srec f b g d=some y):a7 aO (MD [ah e di]) 103 [e,al b,al g,al d,.func (.func cmp_g) #[] cmp_k.toArray] W0 (fun v w'=>∃ (iN:ba),v = .tuple #[]∧lK W0 w' [ah e di] [ah e iN]∧az aa (dT T [ah e iN]) w' iN y):=by
 refine eL (c:=_) Tryz.func103 rfl T 220 Tryz.ntmps103 hT rfl hD fun a hS=>?_;replace hS:=((hS.fact cmp_P hPcmp_).fact br hLv).fR m1;unfold uF at hM;refine aK (J:=fun a w=>St W0 (MD [ah e di]) T 220 [(0,e),(1,al b),(2,al g),(3,al d),(4,.func (.func cmp_g) #[] cmp_k.toArray)] [ah e di] [an aa di f,br,cmp_P] a w∧rc srec f b g d j=some y) ?_ ?_
 ·skip;refine am hS fun a hS=>?_;rcases cd hM with⟨g4,hM⟩|⟨g4,hM⟩
  ·refine am hS fun a hS=>?_;refine aK (J:=fun a w=>∃ (z:Int),St W0 (MD [ah e di]) T 220 [(0,e),(1,al b),(10,al z)] [ah e di] [an aa di f,br,cmp_P] a w∧rh f b z=some y) ?_ ?_
   ·skip;refine am hS fun a hS=>?_;obtain⟨r1,o,hMo1⟩:=bd hM;refine bx _ (fun s a w=>∃ (L:Int) (N:Int),(L,N)=s∧St W0 (MD [ah e di]) T 220 [(0,e),(1,al b),(4,.func (.func cmp_g) #[] cmp_k.toArray),(10,al L),(11,al N)] [ah e di] [an aa di f,br,cmp_P] a w) o ⟨_,_,rfl,hS.mt [0] [0,1,2]⟩ ?_;rintro s a w I ⟨L,N,rfl,hS⟩ hM hf1;have hM:rp f b j L N=some I:=hM;unfold rp at hM;refine ay ?_;refine am hS fun a hS=>?_;rcases cd hM with⟨g5,hM⟩|⟨g5,hM⟩
    ·refine am hS fun a hS=>?_;refine qy hS (CV hS rfl rfl rfl) fun a hS=>?_;refine am hS fun a hS=>?_;refine ay ?_;refine dr [] hS fun w hQ hS=>?_;refine gE [0,1,2] hS fun a hS=>?_;obtain⟨a2,ck,hM⟩:=bd hM;obtain⟨eq,jb,oj,m2,g6,g7,g8,gb⟩:=bP (R:=aa) hS dW bX 0 rfl 0 rfl ck;obtain⟨bb,rfl,d4⟩:=g6;replace hS:=hS.fS d4;refine dy 3 (v:=pt eq jb) rfl (by kernel_rfl) (by kernel_rfl) (by kernel_rfl) rfl hQ hS (gb rfl rfl) rfl rfl rfl fun a hS=>?_;refine dy (l:=[]) 4 (v:=.agg (aE a2 bb).toArray) rfl (by kernel_rfl) (by kernel_rfl) (by kernel_rfl) (by kernel_rfl) hQ hS (bq (k:=0) hS bX 0 rfl g7 g8 rfl bn (us:=(aE a2 bb)) rfl rfl (fun h=>by cases h)) rfl rfl rfl fun a hS=>?_;refine gE [5,6] hS fun a hS=>?_;obtain⟨a3,cl,hM⟩:=bd hM;obtain⟨er,js,ok,m3,gi,gp,gs,gu⟩:=bP (R:=aa) hS dW bX 0 rfl 1 rfl cl;obtain⟨bi,rfl,d6⟩:=gi;replace hS:=hS.fS d6;refine dy 7 (v:=pt er js) rfl (by kernel_rfl) (by kernel_rfl) (by kernel_rfl) rfl hQ hS (gu rfl rfl) rfl rfl rfl fun a hS=>?_;refine dy (l:=[]) 8 (v:=.agg (aE a3 bi).toArray) rfl (by kernel_rfl) (by kernel_rfl) (by kernel_rfl) (by kernel_rfl) hQ hS (bq (k:=0) hS bX 0 rfl gp gs rfl bn (us:=(aE a3 bi)) rfl rfl (fun h=>by cases h)) rfl rfl rfl fun a hS=>?_;obtain⟨ps,d3,hM⟩:=bd hM;refine e1 9 (qJ (cap:=cmp_k) hS rfl m rfl rfl (n _ _ hS.dlt (hS.get 3 rfl) (hS.get 4 rfl) a2 a3 _ (hS.get 1 rfl) _ (hS.get 0 rfl) _ d3) fun _ w hR a hk hA=>⟨fA (hk),?_⟩);obtain rfl:=hR;have hS:=ce hA;refine gE [10] hS fun a hS=>?_;refine eD ?_;exact fz
    exact fz
   rintro a w ⟨z,hS,hM⟩;unfold rh at hM;refine aK (J:=fun a w=>∃ (X:LR) (A:LV),St W0 (MD [ah e di]) T 220 [] [ah e A] [an aa A X,br,cmp_P] a w∧rf X=some y) ?_ ?_
   ·skip;refine am hS fun a hS=>?_;obtain⟨r1,o,hMo1⟩:=bd hM;refine bx _ (fun s a w=>∃ (D:LR) (P:Int) (U:LV),(D,P)=s∧St W0 (MD [ah e di]) T 220 [(0,e),(10,al z),(13,al P)] [ah e U] [an aa U D,br,cmp_P] a w) o ⟨_,_,_,rfl,hS.mt [0] [0,1,2]⟩ ?_;rintro s a w I ⟨D,P,U,rfl,hS⟩ hM hf1;have hM:ro z D P=some I:=hM;unfold ro at hM;refine ay ?_;refine am hS fun a hS=>?_;rcases cd hM with⟨gH,hM⟩|⟨gH,hM⟩
    ·refine am hS fun a hS=>?_;refine ay ?_;refine am hS fun a hS=>?_;refine dr [(15,.blk (Value.ownBlock e)),(17,.blk (Value.ownBlock e))] hS fun w hQ hS=>?_;refine gE [0,1,2,3,4,5,6,7] hS fun a hS=>?_;obtain⟨G,ca,hM⟩:=bd hM;obtain⟨et,k0,op,m4,h0,h1,h2,h3⟩:=bP (R:=aa) hS dW bX 0 rfl 0 rfl ca;obtain⟨ak,rfl,dl⟩:=h0;replace hS:=hS.fS dl;refine dy 8 (v:=pt et k0) rfl (by kernel_rfl) (by kernel_rfl) (by kernel_rfl) rfl hQ hS (h3 rfl rfl) rfl rfl rfl fun a hS=>?_;refine dy (l:=[]) 9 (v:=.agg (aE G ak).toArray) rfl (by kernel_rfl) (by kernel_rfl) (by kernel_rfl) (by kernel_rfl) hQ hS (bq (k:=0) hS bX 0 rfl h1 h2 rfl bn (us:=(aE G ak)) rfl rfl (fun h=>by cases h)) rfl rfl rfl fun a hS=>?_;refine gE [10,11] hS fun a hS=>?_;obtain⟨H,ch,hM⟩:=bd hM;obtain⟨ew,k1,os,md,h4,h5,h6,h7⟩:=bP (R:=aa) hS dW bX 0 rfl 1 rfl ch;obtain⟨av,rfl,dn⟩:=h4;replace hS:=hS.fS dn;refine dy 12 (v:=pt ew k1) rfl (by kernel_rfl) (by kernel_rfl) (by kernel_rfl) rfl hQ hS (h7 rfl rfl) rfl rfl rfl fun a hS=>?_;refine dy (l:=[]) 13 (v:=.agg (aE H av).toArray) rfl (by kernel_rfl) (by kernel_rfl) (by kernel_rfl) (by kernel_rfl) hQ hS (bq (k:=0) hS bX 0 rfl h5 h6 rfl bn (us:=(aE H av)) rfl rfl (fun h=>by cases h)) rfl rfl rfl fun a hS=>?_;obtain⟨g2,b4,hM⟩:=bd hM;obtain⟨ex,k2,p0,mk,h8,h9,ha,hb⟩:=bP (R:=aa) hS dW bX 0 rfl 2 rfl b4;obtain⟨lg,rfl,ds⟩:=h8;replace hS:=hS.fS ds;refine dy 14 (v:=pt ex k2) rfl (by kernel_rfl) (by kernel_rfl) (by kernel_rfl) rfl hQ hS (hb rfl rfl) rfl rfl rfl fun a hS=>?_;refine e1 15 (fT (R:=aa) (k:=0) (cs:=(aE g2 lg)) (us:=(aE G ak)) (x':=G) hS rfl rfl rfl bX 0 rfl 3 rfl h9 ha b4 (⟨_,rfl,(hS.get 0 rfl)⟩) rfl rfl (⟨_,rfl,(hS.get 2 rfl)⟩) fun ms w hk hS=>⟨ij rfl hk gt,?_⟩);obtain⟨g3,b5,hM⟩:=bd hM;obtain⟨f2,k3,p1,mv,hc,hd,hf,hg⟩:=bP (R:=aa) hS dW bX 0 rfl 0 rfl b5;obtain⟨ll,rfl,e0⟩:=hc;replace hS:=hS.fS e0;refine dy 16 (v:=pt f2 k3) rfl (by kernel_rfl) (by kernel_rfl) (by kernel_rfl) rfl hQ hS (hg rfl rfl) rfl rfl rfl fun a hS=>?_;refine e1 17 (fT (R:=aa) (k:=0) (cs:=(aE g3 ll)) (us:=(aE H av)) (x':=H) hS rfl rfl rfl bX 0 rfl 1 rfl hd hf b5 (⟨_,rfl,(hS.get 0 rfl)⟩) rfl rfl (⟨_,rfl,(hS.get 3 rfl)⟩) fun n0 w hk hS=>⟨ij rfl hk gt,?_⟩);refine eD ?_;exact fz
    exact fz
   rintro a w ⟨X,A,hS,hM⟩;unfold rf at hM;refine am hS fun a hS=>?_;cases hM
   refine aG hS Tryz.results103 aF ?_;have hZ:=hS.sl [0] [0];exact⟨A,rfl,hZ.dnew,(hZ.get 0 rfl)⟩
  exact fz
 rintro a w ⟨hS,hM⟩;unfold rc at hM;refine aK (J:=fun a w=>St W0 (MD [ah e di]) T 220 [(0,e),(1,al b),(2,al g),(3,al d),(4,.func (.func cmp_g) #[] cmp_k.toArray)] [ah e di] [an aa di f,br,cmp_P] a w∧sh srec f b g d j=some y) ?_ ?_
 ·skip;refine am hS fun a hS=>?_;rcases cd hM with⟨hh,hM⟩|⟨hh,hM⟩
  ·refine am hS fun a hS=>?_;refine aK (J:=fun a w=>∃ (x:Int),St W0 (MD [ah e di]) T 220 [(0,e),(2,al g),(14,al x)] [ah e di] [an aa di f,br,cmp_P] a w∧rb f g x=some y) ?_ ?_
   ·skip;refine am hS fun a hS=>?_;obtain⟨r1,o,hMo1⟩:=bd hM;refine bx _ (fun s a w=>∃ (K:Int) (M:Int),(K,M)=s∧St W0 (MD [ah e di]) T 220 [(0,e),(2,al g),(4,.func (.func cmp_g) #[] cmp_k.toArray),(14,al K),(15,al M)] [ah e di] [an aa di f,br,cmp_P] a w) o ⟨_,_,rfl,hS.mt [0] [0,1,2]⟩ ?_;rintro s a w I ⟨K,M,rfl,hS⟩ hM hf1;have hM:rj f g j K M=some I:=hM;unfold rj at hM;refine ay ?_;refine am hS fun a hS=>?_;rcases cd hM with⟨hi,hM⟩|⟨hi,hM⟩
    ·refine am hS fun a hS=>?_;refine qy hS (CV hS rfl rfl rfl) fun a hS=>?_;refine am hS fun a hS=>?_;refine ay ?_;refine dr [] hS fun w hQ hS=>?_;refine gE [0,1,2] hS fun a hS=>?_;obtain⟨a0,c5,hM⟩:=bd hM;obtain⟨f3,k4,p2,n1,hj,hl,hm,hn⟩:=bP (R:=aa) hS dW bX 0 rfl 0 rfl c5;obtain⟨bl,rfl,e2⟩:=hj;replace hS:=hS.fS e2;refine dy 3 (v:=pt f3 k4) rfl (by kernel_rfl) (by kernel_rfl) (by kernel_rfl) rfl hQ hS (hn rfl rfl) rfl rfl rfl fun a hS=>?_;refine dy (l:=[]) 4 (v:=.agg (aE a0 bl).toArray) rfl (by kernel_rfl) (by kernel_rfl) (by kernel_rfl) (by kernel_rfl) hQ hS (bq (k:=0) hS bX 0 rfl hl hm rfl bn (us:=(aE a0 bl)) rfl rfl (fun h=>by cases h)) rfl rfl rfl fun a hS=>?_;refine gE [5,6] hS fun a hS=>?_;obtain⟨a1,c9,hM⟩:=bd hM;obtain⟨f4,ks,p3,n2,ho,hp,hq,hr⟩:=bP (R:=aa) hS dW bX 0 rfl 1 rfl c9;obtain⟨bs,rfl,e3⟩:=ho;replace hS:=hS.fS e3;refine dy 7 (v:=pt f4 ks) rfl (by kernel_rfl) (by kernel_rfl) (by kernel_rfl) rfl hQ hS (hr rfl rfl) rfl rfl rfl fun a hS=>?_;refine dy (l:=[]) 8 (v:=.agg (aE a1 bs).toArray) rfl (by kernel_rfl) (by kernel_rfl) (by kernel_rfl) (by kernel_rfl) hQ hS (bq (k:=0) hS bX 0 rfl hp hq rfl bn (us:=(aE a1 bs)) rfl rfl (fun h=>by cases h)) rfl rfl rfl fun a hS=>?_;obtain⟨pl,d2,hM⟩:=bd hM;refine e1 9 (qJ (cap:=cmp_k) hS rfl m rfl rfl (n _ _ hS.dlt (hS.get 3 rfl) (hS.get 4 rfl) a0 a1 _ (hS.get 1 rfl) _ (hS.get 0 rfl) _ d2) fun _ w hR a hk hA=>⟨fA (hk),?_⟩);obtain rfl:=hR;have hS:=ce hA;refine gE [10,11] hS fun a hS=>?_;refine eD ?_;exact fz
    exact fz
   rintro a w ⟨x,hS,hM⟩;unfold rb at hM;refine aK (J:=fun a w=>∃ (W:LR) (B:LV),St W0 (MD [ah e di]) T 220 [] [ah e B] [an aa B W,br,cmp_P] a w∧q9 W=some y) ?_ ?_
   ·skip;refine am hS fun a hS=>?_;obtain⟨r1,o,hMo1⟩:=bd hM;refine bx _ (fun s a w=>∃ (C:LR) (O:Int) (V:LV),(C,O)=s∧St W0 (MD [ah e di]) T 220 [(0,e),(14,al x),(17,al O)] [ah e V] [an aa V C,br,cmp_P] a w) o ⟨_,_,_,rfl,hS.mt [0] [0,1,2]⟩ ?_;rintro s a w I ⟨C,O,V,rfl,hS⟩ hM hf1;have hM:ri x C O=some I:=hM;unfold ri at hM;refine ay ?_;refine am hS fun a hS=>?_;rcases cd hM with⟨hs,hM⟩|⟨hs,hM⟩
    ·refine am hS fun a hS=>?_;refine ay ?_;refine am hS fun a hS=>?_;refine dr [(15,.blk (Value.ownBlock e)),(17,.blk (Value.ownBlock e))] hS fun w hQ hS=>?_;refine gE [0,1,2,3,4,5,6,7] hS fun a hS=>?_;obtain⟨E,c3,hM⟩:=bd hM;obtain⟨f5,kt,p4,nd,ht,hu,hv,hw⟩:=bP (R:=aa) hS dW bX 0 rfl 0 rfl c3;obtain⟨b0,rfl,e4⟩:=ht;replace hS:=hS.fS e4;refine dy 8 (v:=pt f5 kt) rfl (by kernel_rfl) (by kernel_rfl) (by kernel_rfl) rfl hQ hS (hw rfl rfl) rfl rfl rfl fun a hS=>?_;refine dy (l:=[]) 9 (v:=.agg (aE E b0).toArray) rfl (by kernel_rfl) (by kernel_rfl) (by kernel_rfl) (by kernel_rfl) hQ hS (bq (k:=0) hS bX 0 rfl hu hv rfl bn (us:=(aE E b0)) rfl rfl (fun h=>by cases h)) rfl rfl rfl fun a hS=>?_;refine gE [10,11] hS fun a hS=>?_;obtain⟨F,c4,hM⟩:=bd hM;obtain⟨fd,l0,p5,ng,hx,hy,hz,hB⟩:=bP (R:=aa) hS dW bX 0 rfl 1 rfl c4;obtain⟨b1,rfl,e5⟩:=hx;replace hS:=hS.fS e5;refine dy 12 (v:=pt fd l0) rfl (by kernel_rfl) (by kernel_rfl) (by kernel_rfl) rfl hQ hS (hB rfl rfl) rfl rfl rfl fun a hS=>?_;refine dy (l:=[]) 13 (v:=.agg (aE F b1).toArray) rfl (by kernel_rfl) (by kernel_rfl) (by kernel_rfl) (by kernel_rfl) hQ hS (bq (k:=0) hS bX 0 rfl hy hz rfl bn (us:=(aE F b1)) rfl rfl (fun h=>by cases h)) rfl rfl rfl fun a hS=>?_;obtain⟨g0,b2,hM⟩:=bd hM;obtain⟨fl,l1,p6,nl,hC,hE,hF,hG⟩:=bP (R:=aa) hS dW bX 0 rfl 2 rfl b2;obtain⟨ls,rfl,e6⟩:=hC;replace hS:=hS.fS e6;refine dy 14 (v:=pt fl l1) rfl (by kernel_rfl) (by kernel_rfl) (by kernel_rfl) rfl hQ hS (hG rfl rfl) rfl rfl rfl fun a hS=>?_;refine e1 15 (fT (R:=aa) (k:=0) (cs:=(aE g0 ls)) (us:=(aE E b0)) (x':=E) hS rfl rfl rfl bX 0 rfl 3 rfl hE hF b2 (⟨_,rfl,(hS.get 0 rfl)⟩) rfl rfl (⟨_,rfl,(hS.get 2 rfl)⟩) fun nm w hk hS=>⟨ij rfl hk gt,?_⟩);obtain⟨g1,b3,hM⟩:=bd hM;obtain⟨fn,l2,p7,no,hH,hI,hK,hN⟩:=bP (R:=aa) hS dW bX 0 rfl 0 rfl b3;obtain⟨lt,rfl,ea⟩:=hH;replace hS:=hS.fS ea;refine dy 16 (v:=pt fn l2) rfl (by kernel_rfl) (by kernel_rfl) (by kernel_rfl) rfl hQ hS (hN rfl rfl) rfl rfl rfl fun a hS=>?_;refine e1 17 (fT (R:=aa) (k:=0) (cs:=(aE g1 lt)) (us:=(aE F b1)) (x':=F) hS rfl rfl rfl bX 0 rfl 1 rfl hI hK b3 (⟨_,rfl,(hS.get 0 rfl)⟩) rfl rfl (⟨_,rfl,(hS.get 3 rfl)⟩) fun np w hk hS=>⟨ij rfl hk gt,?_⟩);refine eD ?_;exact fz
    exact fz
   rintro a w ⟨W,B,hS,hM⟩;unfold q9 at hM;refine am hS fun a hS=>?_;cases hM
   refine aG hS Tryz.results103 aF ?_;have hZ:=hS.sl [0] [0];exact⟨B,rfl,hZ.dnew,(hZ.get 0 rfl)⟩
  exact fz
 rintro a w ⟨hS,hM⟩;unfold sh at hM;refine am hS fun a hS=>?_;refine qy hS (CV hS rfl rfl rfl) fun a hS=>?_;refine am hS fun a hS=>?_;refine aK (J:=fun a w=>∃ (ag:Int) (af:Int),St W0 (MD [ah e di]) T 220 [(0,e),(1,al b),(2,al g),(3,al d),(4,.func (.func cmp_g) #[] cmp_k.toArray),(18,al (IntKind.i64.wrap (fy .u64 (IntKind.u64.wrap (IntKind.i64.wrap (b+d))) 1))),(19,al (IntKind.i64.wrap ((IntKind.i64.wrap (fy .u64 (IntKind.u64.wrap (IntKind.i64.wrap (b+d))) 1))+g))),(20,al ag),(21,al af)] [ah e di] [an aa di f,br,cmp_P] a w∧pL srec f b g d j ag af=some y) ?_ ?_
 ·exact fz
 rintro a w ⟨ag,af,hS,hM⟩;unfold pL at hM;refine am hS fun a hS=>?_;refine aK (J:=fun a w=>∃ (i:Int),St W0 (MD [ah e di]) T 220 [(0,e),(1,al b),(2,al g),(3,al d),(4,.func (.func cmp_g) #[] cmp_k.toArray),(18,al (IntKind.i64.wrap (fy .u64 (IntKind.u64.wrap (IntKind.i64.wrap (b+d))) 1))),(19,al (IntKind.i64.wrap ((IntKind.i64.wrap (fy .u64 (IntKind.u64.wrap (IntKind.i64.wrap (b+d))) 1))+g))),(20,al i)] [ah e di] [an aa di f,br,cmp_P] a w∧sg srec f b g d j i=some y) ?_ ?_
 ·skip;refine am hS fun a hS=>?_;obtain⟨r1,o,hMo1⟩:=bd hM;refine bx _ (fun s a w=>∃ (S:Int) (Q:Int),(S,Q)=s∧St W0 (MD [ah e di]) T 220 [(0,e),(1,al b),(2,al g),(3,al d),(4,.func (.func cmp_g) #[] cmp_k.toArray),(18,al (IntKind.i64.wrap (fy .u64 (IntKind.u64.wrap (IntKind.i64.wrap (b+d))) 1))),(19,al (IntKind.i64.wrap ((IntKind.i64.wrap (fy .u64 (IntKind.u64.wrap (IntKind.i64.wrap (b+d))) 1))+g))),(20,al S),(21,al Q),(22,al (IntKind.i64.wrap ((IntKind.i64.wrap ((IntKind.i64.wrap (fy .u64 (IntKind.u64.wrap (IntKind.i64.wrap (b+d))) 1))+g))-1)))] [ah e di] [an aa di f,br,cmp_P] a w) o ⟨_,_,rfl,hS.mt [0] [0,1,2]⟩ ?_;rintro s a w I ⟨S,Q,rfl,hS⟩ hM hf1;have hM:si f b g d j S Q=some I:=hM;unfold si at hM;refine ay ?_;refine am hS fun a hS=>?_;rcases cd hM with⟨hV,hM⟩|⟨hV,hM⟩
  ·refine am hS fun a hS=>?_;refine qy hS (CV hS rfl rfl rfl) fun a hS=>?_;refine am hS fun a hS=>?_;refine ay ?_;refine dr [] hS fun w hQ hS=>?_;refine gE [0,1,2,3,4] hS fun a hS=>?_;obtain⟨Y,c1,hM⟩:=bd hM;obtain⟨fr,la,pa,nv,hW,hX,hY,i0⟩:=bP (R:=aa) hS dW bX 0 rfl 0 rfl c1;obtain⟨bt,rfl,eb⟩:=hW;replace hS:=hS.fS eb;refine dy 5 (v:=pt fr la) rfl (by kernel_rfl) (by kernel_rfl) (by kernel_rfl) rfl hQ hS (i0 rfl rfl) rfl rfl rfl fun a hS=>?_;refine dy (l:=[]) 6 (v:=.agg (aE Y bt).toArray) rfl (by kernel_rfl) (by kernel_rfl) (by kernel_rfl) (by kernel_rfl) hQ hS (bq (k:=0) hS bX 0 rfl hX hY rfl bn (us:=(aE Y bt)) rfl rfl (fun h=>by cases h)) rfl rfl rfl fun a hS=>?_;refine gE [7,8] hS fun a hS=>?_;obtain⟨Z,c2,hM⟩:=bd hM;obtain⟨fs,le,pb,o1,i1,i2,i3,i4⟩:=bP (R:=aa) hS dW bX 0 rfl 1 rfl c2;obtain⟨c0,rfl,ed⟩:=i1;replace hS:=hS.fS ed;refine dy 9 (v:=pt fs le) rfl (by kernel_rfl) (by kernel_rfl) (by kernel_rfl) rfl hQ hS (i4 rfl rfl) rfl rfl rfl fun a hS=>?_;refine dy (l:=[]) 10 (v:=.agg (aE Z c0).toArray) rfl (by kernel_rfl) (by kernel_rfl) (by kernel_rfl) (by kernel_rfl) hQ hS (bq (k:=0) hS bX 0 rfl i2 i3 rfl bn (us:=(aE Z c0)) rfl rfl (fun h=>by cases h)) rfl rfl rfl fun a hS=>?_;obtain⟨pk,d1,hM⟩:=bd hM;refine e1 11 (qJ (cap:=cmp_k) hS rfl m rfl rfl (n _ _ hS.dlt (hS.get 3 rfl) (hS.get 4 rfl) Y Z _ (hS.get 1 rfl) _ (hS.get 0 rfl) _ d1) fun _ w hR a hk hA=>⟨fA (hk),?_⟩);obtain rfl:=hR;have hS:=ce hA;refine gE [12,13] hS fun a hS=>?_;refine eD ?_;exact fz
  exact fz
 rintro a w ⟨i,hS,hM⟩;unfold sg at hM;refine am hS fun a hS=>?_;refine aK (J:=fun a w=>∃ (t:LR) (u:LV),St W0 (MD [ah e di]) T 220 [(0,e),(1,al b),(3,al d),(4,.func (.func cmp_g) #[] cmp_k.toArray),(18,al (IntKind.i64.wrap (fy .u64 (IntKind.u64.wrap (IntKind.i64.wrap (b+d))) 1))),(20,al i),(24,al (IntKind.i64.wrap ((IntKind.i64.wrap ((IntKind.i64.wrap (fy .u64 (IntKind.u64.wrap (IntKind.i64.wrap (b+d))) 1))+g))-i)))] [ah e u] [an aa u t,br,cmp_P] a w∧pJ srec b g d j i t=some y) ?_ ?_
 ·skip;refine aK (J:=fun a w=>∃ (a9:Bool),St W0 (MD [ah e di]) T 220 [(0,e),(1,al b),(2,al g),(3,al d),(4,.func (.func cmp_g) #[] cmp_k.toArray),(18,al (IntKind.i64.wrap (fy .u64 (IntKind.u64.wrap (IntKind.i64.wrap (b+d))) 1))),(20,al i),(24,al (IntKind.i64.wrap ((IntKind.i64.wrap ((IntKind.i64.wrap (fy .u64 (IntKind.u64.wrap (IntKind.i64.wrap (b+d))) 1))+g))-i))),(185,.bool a9)] [ah e di] [an aa di f,br,cmp_P] a w∧pK srec f b g d j i a9=some y) ?_ ?_
  ·exact fz
  rintro a w ⟨a9,hS,hM⟩;unfold pK at hM;rcases cd hM with⟨i5,hM⟩|⟨i5,hM⟩
  ·refine am hS fun a hS=>?_;obtain⟨pf,d0,hM⟩:=bd hM;replace hS:=hS.re [0] [];refine wl rfl (bv hS Ju rfl rfl (Fi _ _ hS.dltD cmp_g m cmp_k cmp_P j n f i g (IntKind.i64.wrap ((IntKind.i64.wrap ((IntKind.i64.wrap (fy .u64 (IntKind.u64.wrap (IntKind.i64.wrap (b+d))) 1))+g))-i)) _ _ hS.dok (hS.getD 0 rfl) (hS.getD 1 rfl) (hS.getD 2 rfl) _ d0) fun _ w hR a hk hA=>?_);obtain⟨o2,he,i9,b6⟩:=hR;obtain rfl:=he.symm;have hS:=hA _ i9;replace hS:=hS.fR (b6.keep (aj _ _) (ap _));exact fz
  exact fz
 rintro a w ⟨t,u,hS,hM⟩;unfold pJ at hM;refine aK (J:=fun a w=>∃ (r:LR) (q:LV),St W0 (MD [ah e di]) T 220 [(0,e),(3,al d),(4,.func (.func cmp_g) #[] cmp_k.toArray),(18,al (IntKind.i64.wrap (fy .u64 (IntKind.u64.wrap (IntKind.i64.wrap (b+d))) 1))),(24,al (IntKind.i64.wrap ((IntKind.i64.wrap ((IntKind.i64.wrap (fy .u64 (IntKind.u64.wrap (IntKind.i64.wrap (b+d))) 1))+g))-i)))] [ah e q] [an aa q r,br,cmp_P] a w∧pH srec b g d j i r=some y) ?_ ?_
 ·skip;refine aK (J:=fun a w=>∃ (a5:Bool),St W0 (MD [ah e di]) T 220 [(0,e),(1,al b),(3,al d),(4,.func (.func cmp_g) #[] cmp_k.toArray),(18,al (IntKind.i64.wrap (fy .u64 (IntKind.u64.wrap (IntKind.i64.wrap (b+d))) 1))),(20,al i),(24,al (IntKind.i64.wrap ((IntKind.i64.wrap ((IntKind.i64.wrap (fy .u64 (IntKind.u64.wrap (IntKind.i64.wrap (b+d))) 1))+g))-i))),(199,.bool a5)] [ah e u] [an aa u t,br,cmp_P] a w∧pI srec b g d j i t a5=some y) ?_ ?_
  ·exact fz
  rintro a w ⟨a5,hS,hM⟩;unfold pI at hM;rcases cd hM with⟨ib,hM⟩|⟨ib,hM⟩
  ·refine am hS fun a hS=>?_;obtain⟨pe,cv,hM⟩:=bd hM;replace hS:=hS.re [0] [];refine wl rfl (bv hS Cm rfl rfl (hsrec _ _ hS.dltD cmp_g m cmp_k cmp_P j n t b i (IntKind.i64.wrap (fy .u64 (IntKind.u64.wrap (IntKind.i64.wrap (b+d))) 1)) _ _ hS.dok (hS.getD 0 rfl) (hS.getD 1 rfl) (hS.getD 2 rfl) _ cv) fun _ w hR a hk hA=>?_);obtain⟨o3,he,ih,b8⟩:=hR;obtain rfl:=he.symm;have hS:=hA _ ih;replace hS:=hS.fR (b8.keep (aj _ _) (ap _));exact fz
  exact fz
 rintro a w ⟨r,q,hS,hM⟩;unfold pH at hM;refine aK (J:=fun a w=>∃ (a4:Bool),St W0 (MD [ah e di]) T 220 [(0,e),(3,al d),(4,.func (.func cmp_g) #[] cmp_k.toArray),(18,al (IntKind.i64.wrap (fy .u64 (IntKind.u64.wrap (IntKind.i64.wrap (b+d))) 1))),(24,al (IntKind.i64.wrap ((IntKind.i64.wrap ((IntKind.i64.wrap (fy .u64 (IntKind.u64.wrap (IntKind.i64.wrap (b+d))) 1))+g))-i))),(213,.bool a4)] [ah e q] [an aa q r,br,cmp_P] a w∧pG srec b g d j i r a4=some y) ?_ ?_
 ·exact fz
 rintro a w ⟨a4,hS,hM⟩;unfold pG at hM;rcases cd hM with⟨ii,hM⟩|⟨ii,hM⟩
 ·refine am hS fun a hS=>?_;obtain⟨pc,co,hM⟩:=bd hM;replace hS:=hS.re [0] [];refine wl rfl (bv hS Cm rfl rfl (hsrec _ _ hS.dltD cmp_g m cmp_k cmp_P j n r (IntKind.i64.wrap (fy .u64 (IntKind.u64.wrap (IntKind.i64.wrap (b+d))) 1)) (IntKind.i64.wrap ((IntKind.i64.wrap ((IntKind.i64.wrap (fy .u64 (IntKind.u64.wrap (IntKind.i64.wrap (b+d))) 1))+g))-i)) d _ _ hS.dok (hS.getD 0 rfl) (hS.getD 1 rfl) (hS.getD 2 rfl) _ co) fun _ w hR a hk hA=>?_);obtain⟨fM,he,it,b9⟩:=hR;obtain rfl:=he.symm;have hS:=hA _ it;replace hS:=hS.fR (b9.keep (aj _ _) (ap _));refine am hS fun a hS=>?_;refine xV ?_;cases hM
  refine aG hS Tryz.results103 aF ?_;have hZ:=hS.sl [0] [0];exact⟨fM,rfl,hZ.dnew,(hZ.get 0 rfl)⟩
 refine am hS fun a hS=>?_;refine xV ?_;cases hM
 refine aG hS Tryz.results103 aF ?_;have hZ:=hS.sl [0] [0];exact⟨q,rfl,hZ.dnew,(hZ.get 0 rfl)⟩
end
end
section
open Go.RowKit
noncomputable def Km:Nat→(ad→ad→Option Int)→List ad→Int→Int→Int→Option (List ad)
 | 0=>fun _ _ _ _ _=>none
 | f+1=>fun c=>uF c (Km f)
theorem Fv:∀ f,xn (Km f)
 | 0=>by
  unfold xn
  intros
  rename_i hM;cases hM
 | f+1=>by
  have ih:=Fv f;unfold xn;intro T W0 hT g hg k P c hc d a m b v cl hD hv hLv hP y hM;have hM:uF c (Km f) d a m b=some y:=hM;exact B8 T W0 hT g hg k P c hc (Km f) ih d a m b v cl hD hv hLv hP y hM
noncomputable def sm:=Km 16
theorem J1:xn sm:=Fv 16
end
end Go.Proofs.YtdcojaccpnabkaaGreatDoor
