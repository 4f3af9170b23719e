/- Texts of the proof, joined (7). -/
import Derived.Test.YtdcojaccpnabkaaGreatDoorA6
set_option linter.unusedVariables false
set_option linter.unusedSimpArgs false
set_option linter.unusedSectionVars false
namespace Go.Proofs.YtdcojaccpnabkaaGreatDoor
section
open Go.RowKit
open Go.Lib hiding intOf
theorem HD {d:List ab} (hc:∀ r∈d,kq r) (hl:d.length≤40):∃ z,eH aO d=some z∧z.Perm d∧sN z:=by
 rcases i6 d.length 20 with h20 | h20
 ·exact A5 hc h20
 obtain⟨x,y,rfl,hx20⟩:∃ x y,d=x++y∧x.length=20:=⟨d.take 20,d.drop 20,(qi _ _).symm,by rw [dh]; omega⟩;rw [bL] at hl h20;have hcx:∀ r∈x,kq r:=fun r hr=>hc r (me _ hr);have hcy:∀ r∈y,kq r:=fun r hr=>hc r (tw _ hr);obtain⟨z1,a1,a2,a3⟩:=Bw (p:=[]) (x:=x) (s:=y) hcx (by simp; omega);have l1:=a2.length_eq;obtain⟨z2,b1,b2,b3⟩:=Bw (p:=z1) (x:=y) (s:=[]) hcy (by simp; omega);have l2:=b2.length_eq;rw [rW,rW,jR,sL,hx20] at a1;rw [pT,pT,l1,hx20] at b1;have a1:b7 aO (x++y) 0 20=some (z1++y):=a1;have b1:b7 aO (z1++y) 20 ((20+y.length:Nat):Int)=some (z1++z2):=b1;have cz1:∀ r∈z1,kq r:=fun r hr=>hcx r (a2.mem_iff.1 hr);have cz2:∀ r∈z2,kq r:=fun r hr=>hcy r (b2.mem_iff.1 hr);have pz:(z1++z2).Perm (x++y):=a2.append b2;have en:((x++y).length:Int)=((20+y.length:Nat):Int):=by rw [bL,hx20]
 unfold eH mN;rw [en];have w20:IntKind.i64.wrap (20+20)=40:=by decide
 have f1:cQ ((20+y.length:Nat):Int) aO (x++y) 0 20=some (.go (z1++y,20,40)):=by
  unfold cQ;rw [decide_eq_true (by omega),cond_true,a1,aq,w20]
 rw [jh (s':=(z1++y,20,40)) f1]
 have fin:∀ w:List ab,w.Perm (x++y)→sN w→∀ r:Int,((some w:Option (List ab)).bind fun u=>some u)=some w:=fun w _ _ _=>rfl;rcases wK y.length with hy0 | hy0
 ·-- 20 records
  have:y=[]:=rF.1 hy0;subst this;obtain⟨z3,c1,c2,c3⟩:=Bw (p:=z1) (x:=[]) (s:=[]) (fun r hr=>absurd hr ou) (by simp; omega);have:z3=[]:=rF.1 c2.length_eq;subst this;simp only [pT,jR,qk] at *;rw [l1,hx20] at c1;have c1:b7 aO z1 20 20=some z1:=c1;refine⟨z1,?_,a2,a3⟩;rw [cN (r:=(z1,20)) (by
   dsimp only;unfold cQ;rw [show decide ((40:Int)≤((20:Nat):Int))=false by decide,cond_false]),aq]
  unfold dY;show ((((b7 aO z1 20 20).bind _)).bind _)=_;rw [c1,aq,cN (r:=z1) (by
   dsimp only;unfold cy;rw [show decide ((20:Int)<((20:Nat):Int))=false by decide,cond_false])]
  rfl
 obtain⟨w,g1,g2,g3⟩:=DZ 16 [] z1 z2 [] cz1 cz2 a3 b3 (by omega) (by omega) (by rw [show (2:Nat) ^ 16=65536 by decide]; omega) (by simp; omega);rw [rW,rW,pT,pT,jR,sL,l1,l2,hx20] at g1;have g1:sm aO (z1++z2) 0 20 ((20+y.length:Nat):Int)=some w:=g1;refine⟨w,?_,g2.trans pz,g3⟩;rcases i6 y.length 20 with hy | hy
 ·-- fewer than 40
  rw [cN (r:=(z1++y,20)) (by
   dsimp only;unfold cQ;rw [decide_eq_false (by omega),cond_false]),aq]
  unfold dY;show ((((b7 aO (z1++y) 20 ((20+y.length:Nat):Int)).bind _)).bind _)=_;rw [b1,aq];have q1:cy ((20+y.length:Nat):Int) aO (z1++z2) 20=some (.go (w,40)):=by
   unfold cy;rw [decide_eq_true (by omega),cond_true,cN (r:=(z1++z2,0)) (by
    dsimp only;unfold gJ;rw [show IntKind.i64.wrap (2*20)=40 by decide,decide_eq_false (by omega),cond_false]),aq]
   unfold gI;rw [show IntKind.i64.wrap (0+20)=20 by decide,decide_eq_true (by omega),cond_true,g1];rfl
  rw [jh (s':=(w,40)) q1,cN (r:=w) (by
   dsimp only;unfold cy;rw [decide_eq_false (by omega),cond_false])]
  rfl
 ·-- 40 records
  have hy:y.length=20:=by omega
  rw [hy] at b1 g1 ⊢;have b1:b7 aO (z1++y) 20 40=some (z1++z2):=b1;have g1:sm aO (z1++z2) 0 20 40=some w:=g1;obtain⟨z3,c1,c2,c3⟩:=Bw (p:=z1++z2) (x:=[]) (s:=[]) (fun r hr=>absurd hr ou) (by simp; omega);have:z3=[]:=rF.1 c2.length_eq;subst this;simp only [pT,jR,qk,bL,l1,l2,hx20,hy] at c1;have c1:b7 aO (z1++z2) 40 40=some (z1++z2):=c1;rw [jh (s':=(z1++z2,40,60)) (by
   dsimp only;unfold cQ;rw [show decide ((40:Int)≤((20+20:Nat):Int))=true by decide,cond_true,b1,aq,show IntKind.i64.wrap (40+20)=60 by decide]),cN (r:=(z1++z2,40)) (by
   dsimp only;unfold cQ;rw [show decide ((60:Int)≤((20+20:Nat):Int))=false by decide,cond_false]),aq]
  unfold dY;show ((((b7 aO (z1++z2) 40 40).bind _)).bind _)=_;rw [c1,aq];have q1:cy ((20+20:Nat):Int) aO (z1++z2) 20=some (.go (w,40)):=by
   unfold cy;rw [show decide ((20:Int)<((20+20:Nat):Int))=true by decide,cond_true,show IntKind.i64.wrap (2*20)=40 by decide,jh (s':=(w,40,80)) (by
    dsimp only;unfold gJ;rw [show decide ((40:Int)≤((20+20:Nat):Int))=true by decide,cond_true,show IntKind.i64.wrap (0+20)=20 by decide,g1];rfl),cN (r:=(w,40)) (by
    dsimp only;unfold gJ;rw [show decide ((80:Int)≤((20+20:Nat):Int))=false by decide,cond_false]),aq]
   unfold gI;rw [show decide (IntKind.i64.wrap (40+20)<((20+20:Nat):Int))=false by decide,cond_false];rfl
  rw [jh (s':=(w,40)) q1,cN (r:=w) (by
   dsimp only;unfold cy;rw [show decide ((40:Int)<((20+20:Nat):Int))=false by decide,cond_false])]
  rfl
theorem EL {l:List ab} (hc:∀ r∈l,kq r) (hl:l.length≤40):∃ s:List ab,dS l=some (s.map ab.Key)∧s.Perm l∧sN s:=by
 obtain⟨s,h1,h2,h3⟩:=HD hc hl;refine⟨s,?_,h2,h3⟩;have hlen:=h2.length_eq;unfold dS;rw [wP (by unfold Rm; omega),aq,h1,aq];rw [show loop (fun t:(List ah)×Int=>eh s t.1 t.2) (([]:List ah),0)=some (s.map ab.Key) from cG (xs:=s) (fun n=>((s.take n).map ab.Key,(n:Int))) rfl (fun n r hx=>by
  have hn:=aV hx;dsimp only;unfold eh;rw [cM hx,cond_true,aM,hx,aq,uS (dX (by simp; omega)),cc (by omega),bw hx,sK];rfl) (by
  dsimp only;unfold eh;rw [bA,i7]; rfl)]
 rfl
theorem zt:∀ {a b:List ab},a.Perm b→sN a→sN b→(b.map ab.Key).Nodup→a=b
 | [],b,h,_,_,_=>h.nil_eq
 | x::a,[],h,_,_,_=>absurd h.length_eq (by simp)
 | x::a,y::b,h,ha,hb,hn=>by
  have hxy:x=y:=by
   have hx:x∈y::b:=h.mem_iff.1 rH;have hy:y∈x::a:=h.mem_iff.2 rH;refine u6 fun hne=>?_;have h1:kd x y≤0:=by
    rcases ee.1 hy with e | hy
    ·exact absurd e.symm hne
    ·exact (si.1 ha).1 y hy
   have h2:kd y x≤0:=by
    rcases ee.1 hx with e | hx
    ·exact absurd e hne
    ·exact (si.1 hb).1 x hx
   have h3:x.Key≠y.Key:=fun e=>hne (IY hn hx rH e);have h4:=Ly h3;rw [lj] at h2;omega
  subst hxy;rw [ow,vb] at hn;rw [zt (List.Perm.cons_inv h) (si.1 ha).2 (si.1 hb).2 hn.2]
end
section
open Go.RowKit
open Go.Lib hiding intOf
theorem AB {a b:ab} (ha:kq a) (hb:kq b):ki a b=some (decide (kd a b<0)):=by
 have m1:=qJ ha.low ha.high hb.sz.le;have m2:=qJ hb.low hb.high ha.sz.le;unfold ki kd;rw [nq ha.sz,aq,nq hb.sz,aq,gM (by omega) (by omega),gM (by omega) (by omega)];by_cases h1:a.Cost*(fh b:Int)=b.Cost*(fh a:Int)
 ·rw [h1,show ((b.Cost*(fh a:Int):Int) != b.Cost*(fh a:Int))=false by simp,cond_false,if_neg (by omega),if_neg (by omega)];by_cases h2:(fh a:Int)=fh b
  ·rw [h2,show (((fh b:Int):Int) != (fh b:Int))=false by simp,cond_false,jK,aq,if_neg (by omega),if_neg (by omega)]
  ·rw [show (((fh a:Int):Int) != (fh b:Int))=true by simpa using h2,cond_true];by_cases h3:fh b<fh a
   ·rw [if_pos h3,decide_eq_true (by omega),decide_eq_true (by omega)]
   ·rw [if_neg h3,if_pos (by omega),decide_eq_false (by omega),decide_eq_false (by omega)]
 ·rw [show ((a.Cost*(fh b:Int):Int) != b.Cost*(fh a:Int))=true by simpa using h1,cond_true];by_cases h3:a.Cost*(fh b:Int)<b.Cost*(fh a:Int)
  ·rw [if_pos h3,decide_eq_true h3,decide_eq_true (by omega)]
  ·rw [if_neg h3,if_pos (by omega),decide_eq_false h3,decide_eq_false (by omega)]
theorem EO {l:List ab} (hc:∀ r∈l,kq r) (hl:l.length≤1000):∃ z,iL l=some z∧z.Perm l∧sN z:=by
 have key:Ok (iL l) fun z=>z.Perm l∧sN z:=by
  unfold iL;refine bG (fun n t=>t.2=(n:Int)∧t.1.Perm (l.take n)∧sN t.1) (fun z=>z.Perm l∧sN z) l.length ⟨rfl,Dp _,uL⟩ (fun n t hn hI=>?_) (fun z hz=>ap hz);obtain⟨o,g⟩:=t;obtain⟨h1,h2,h3⟩:=hI;dsimp only at h1 h2 h3 ⊢;subst h1;have ho:=h2.length_eq;rw [dh] at ho;unfold lH;by_cases hlt:n<l.length
  ·have hx:l[n]? = some l[n]:=bq hlt;have he:=hc _ (ge hlt);have hco:∀ r∈o,kq r:=fun r hr=>hc r (tx (h2.mem_iff.1 hr));have fin:∀ i:Nat,i≤o.length→(∀ r∈o.take i,kd r l[n]≤0)→(∀ r∈o.drop i,kd l[n] r≤0)→Ok (jJ o (n:Int) l[n] (i:Int)) fun r=>match r with
     | .go s'=>n<l.length∧s'.2=((n+1:Nat):Int)∧s'.1.Perm (l.take (n+1))∧sN s'.1
     | .out r=>r.Perm l∧sN r:=fun i hi q1 q2=>by
    unfold jJ;rw [oX hi,aq,uD hi,aq,uS (dX (by simp; omega)),uS (dX (by simp; omega)),uS (dX (by simp; omega))];unfold lG;have hs:=h3;rw [← qi i o] at hs;have h4:=oF.1 hs;refine ap ⟨hlt,cc (by omega),?_,?_⟩
    ·rw [bw hx,rW,eT,List.singleton_append];refine List.perm_middle.trans ?_;rw [qi];exact (HY _ _).symm.trans (h2.append_right _)
    ·rw [rW,eT,List.singleton_append];refine sN.app h4.1 (si.2 ⟨q2,h4.2.1⟩) fun r hr q hq=>?_;rcases ee.1 hq with hq | hq
     ·rw [hq]; exact q1 r hr
     ·exact h4.2.2 r hr q hq
   rw [decide_eq_true (by omega),cond_true,aM,hx,aq];rcases iO (B:=fun t:Int=>fB o l[n] t) (xs:=o) (fun r=>!(decide (kd r l[n]<0))) (fun k=>(k:Int)) (s0:=0) rfl (y:=fun k _=>(k:Int)) (n:=(o.length:Int)) (fun k x hk hp=>by
     unfold fB;have hp:kd x l[n]<0:=by simpa using hp
     rw [cM hk,cond_true,aM,hk,aq,AB (hco x (aG hk)) he,aq,decide_eq_true hp,cond_true,cc (by have:=aV hk; omega)]) (fun k x hk hp=>by
     unfold fB;have hp:¬ kd x l[n]<0:=by simpa using hp
     rw [cM hk,cond_true,aM,hk,aq,AB (hco x (aG hk)) he,aq,decide_eq_false hp,cond_false]) (by
     unfold fB;rw [bA]; rfl) with⟨k,x,k1,k2,k3,k4⟩|⟨k1,k2⟩
   ·rw [k4,aq];have hk:=aV k1;refine (fin k (by omega) (fun r hr=>?_) (fun r hr=>?_)).mono fun y hy=>by cases y <;> exact hy
    ·obtain⟨j,hj⟩:=gt.1 hr;have hjl:=aV hj;rw [dh] at hjl;rw [mO,if_pos (by omega)] at hj;have:=k3 j r (by omega) hj;have:kd r l[n]<0:=by simpa using this
     omega
    ·obtain⟨j,hj⟩:=gt.1 hr;rw [qj] at hj;have h5:¬ kd x l[n]<0:=by simpa using k2
     have h6:kd l[n] x≤0:=by rw [lj]; omega
     exact lY h6 (h3.get (i:=k) (j:=k+j) (by omega) k1 hj)
   ·rw [k2,aq];refine (fin o.length (ce _) (fun r hr=>?_) (fun r hr=>?_)).mono fun y hy=>by cases y <;> exact hy
    ·have:=k1 r (tx hr);have:kd r l[n]<0:=by simpa using this
     omega
    ·rw [Dm] at hr; cases hr
  ·rw [decide_eq_false (by omega),cond_false];have e2:l.take n=l:=xD (by omega);rw [e2] at h2;exact ap ⟨h2,h3⟩
 obtain⟨z,e,h⟩:=key;exact⟨z,e,h⟩
end
section
open Go.RowKit
open Go.Lib hiding intOf
theorem xz {l:List ab} (h:∀ r∈l,vd r) (hl:l.length≤100000):jQ l=some (cF l:Int):=by
 unfold jQ;have e:loop (fun s:Int×Int=>hJ l s.1 s.2) (0,0)=some (cF l:Int):=by
  refine (cG (xs:=l) (fun n=>((cF (l.take n):Int),(n:Int))) rfl (fun n r hx=>?_) ?_)
  ·dsimp only;have hn:=aV hx;have h1:=h r (aG hx);have h2:=uE (l:=l.take n) fun x hx=>h x (tx hx);have h3:=h1.le;rw [dh] at h2;have h4:min n l.length*2147515664≤100000*2147515664:=nL _ (by omega);unfold hJ;rw [cM hx,cond_true,aM,hx,aq,nq h1,aq,gM (by omega) (by omega),cc (by omega),bw hx,qP];congr 3
  ·dsimp only;unfold hJ;rw [bA,i7]; rfl
 rw [e]; rfl
theorem Ap {b:am} {s:List ab} {keep:List ah} {n:Int} {m:Nat} (hb:Bc b.Records) (hz:∀ r∈b.Records,vd r) (h20:b.Records.length<100) (hk:Rm keep.length) (hp:s.Perm b.Records) (hn:(b.Records.map ab.Key).Nodup) (e:L5 b n keep s m) :
  loop (fun t:(List ah)×Int×(List ab)=>hH n keep s t.1 t.2.1 t.2.2) (([]:List ah),0,b.Records)=some (((a7 keep s).take m).map ab.Key,dg b.Records (((a7 keep s).take m).map ab.Key)):=by
 have hlen:=hp.length_eq;have hns:(s.map ab.Key).Nodup:=((hp.map ab.Key).nodup_iff).2 hn;have hle:=e.le;refine cG (xs:=s) (fun i=>(((a7 keep (s.take i)).take m).map ab.Key,(i:Int),dg b.Records (((a7 keep (s.take i)).take m).map ab.Key))) (by
  rw [Dj];show _=((([]:List ab).take m).map ab.Key,((0:Nat):Int),dg b.Records ((([]:List ab).take m).map ab.Key));rw [List.take_nil,ug,ut]; rfl) (fun i r hx=>?_) (by
  dsimp only;unfold hH;rw [bA,i7]; rfl)
 have hi:=aV hx;have hm:=aG hx;have hsplit:a7 keep s=a7 keep (s.take i)++a7 keep (s.drop i):=by
  unfold a7;rw [← kH,qi]
 have hsub:((a7 keep (s.take i)).take m).Sublist s:=(Dl _ _).trans (List.filter_sublist.trans (Dl _ _));have hnod:(((a7 keep (s.take i)).take m).map ab.Key).Nodup:=(hsub.map ab.Key).nodup hns;have hmem:∀ x∈(a7 keep (s.take i)).take m,x∈b.Records:=fun x hx=>hp.mem_iff.1 (hsub.subset hx);have hsum:=wb hn hnod hmem;rw [← oY hp] at hsum;have htot:=xz (l:=dg b.Records (((a7 keep (s.take i)).take m).map ab.Key)) (fun r hr=>hz r (iN.1 hr).1) (by have:=hsum.2; omega);have hgl:((a7 keep (s.take i)).take m).length≤s.length:=hsub.length_le;have htk:(a7 keep s).take (a7 keep (s.take i)).length=a7 keep (s.take i):=by rw [hsplit,List.take_left]
 dsimp only;unfold hH;rw [cM hx,cond_true,aM,hx,aq,htot,aq];cases hkk:vp keep r.Key with
 | true =>
  have e1:a7 keep (s.take (i+1))=a7 keep (s.take i):=by
   rw [bw hx]; unfold a7; rw [kH]; simp [hkk]
  have stay:dJ (((a7 keep (s.take i)).take m).map ab.Key) (i:Int) (dg b.Records (((a7 keep (s.take i)).take m).map ab.Key)) r false=some (.go (((a7 keep (s.take (i+1))).take m).map ab.Key,((i+1:Nat):Int),dg b.Records (((a7 keep (s.take (i+1))).take m).map ab.Key))):=by
   unfold dJ fA;rw [cond_false,e1,cc (by omega)]
  by_cases hc:n<(cF (dg b.Records (((a7 keep (s.take i)).take m).map ab.Key)):Int)
  ·rw [decide_eq_true hc,cond_true,qM hk,aq,show (keep.any fun x=>dU r.Key x)=true from hkk];exact stay
  ·rw [decide_eq_false hc,cond_false]; exact stay
 | false =>
  have e1:a7 keep (s.take (i+1))=a7 keep (s.take i)++[r]:=by
   rw [bw hx]; unfold a7; rw [kH]; simp [hkk]
  have hc1:(a7 keep (s.take i)).length+1≤(a7 keep s).length:=by
   have:a7 keep s=a7 keep (s.take (i+1))++a7 keep (s.drop (i+1)):=by
    unfold a7; rw [← kH,qi]
   rw [this,e1]; simp
  by_cases hj:(a7 keep (s.take i)).length<m
  ·have e2:(a7 keep (s.take i)).take m=a7 keep (s.take i):=xD (by omega);have e3:(a7 keep (s.take (i+1))).take m=a7 keep (s.take i)++[r]:=by rw [e1]; exact xD (by simp; omega)
   have hnd:=e.need _ hj;rw [htk] at hnd;rw [e2] at hsum hgl ⊢;rw [decide_eq_true (by omega),cond_true,qM hk,aq,show (keep.any fun x=>dU r.Key x)=false from hkk];unfold dJ fA;rw [nM,cond_true,vA (uw hb _).1,aq,uS (dX (by simp; omega)),e3,cc (by omega),sK];have:=yT b.Records ((a7 keep (s.take i)).map ab.Key) r.Key;unfold Cz at this;rw [this]; rfl
  ·have e2:(a7 keep (s.take i)).take m=(a7 keep s).take m:=by
    rw [hsplit,Ec (by omega)]
   have e3:(a7 keep (s.take (i+1))).take m=(a7 keep s).take m:=by
    rw [e1,Ec (by omega),e2]
   have hf:(cF s:Int)-cF ((a7 keep s).take m)≤n:=by
    rcases e.fit with h | h
    ·omega
    ·exact h
   rw [e2] at hsum ⊢;rw [decide_eq_false (by omega),cond_false];unfold dJ fA;rw [cond_false,e3,cc (by omega)]
end
section
open Go.RowKit
open Go.Lib hiding intOf
theorem H7 (a b:Int):(a==b)=decide (a=b):=by by_cases h:a=b <;> simp [h]
theorem HM {k:ah} (hs:k.Text.size≤140737488355328):∃ b,dv k=some b∧cW k=some b:=by
 by_cases h:30≤k.Kind∧k.Kind≤32
 ·refine⟨decide (0≤xM k),?_,?_⟩
  ·unfold dv;rw [zy,decide_eq_true h,yR hs];rfl
  ·unfold cW fj;rw [decide_eq_true h.1,decide_eq_true h.2];simp only [cond_true];rw [oU];rfl
 ·have e2:cW k=fj k false:=by
   unfold cW;by_cases h1:30≤k.Kind
   ·rw [decide_eq_true h1,cond_true,decide_eq_false (fun h2=>h ⟨h1,h2⟩)]
   ·rw [decide_eq_false h1,cond_false]
  rw [e2];unfold dv fj lT jW fO iC eo;rw [zy,decide_eq_false h];simp only [aq,cond_false];by_cases h1:1≤k.Kind <;> by_cases h2:k.Kind≤22 <;> by_cases h3:(k.Text.size:Int)≤1073741824 <;> by_cases h4:k.Kind=1 <;> by_cases h5:k.Kind=21 <;>
   cases h6:(k.Text.toList==cr.toList) <;> simp [h1,h2,h3,h4,h5,H7,bne]
noncomputable def vk (k:ah):Bool:=(dv k).getD false
theorem A7 {k:ah} (h:k.Text.size≤140737488355328):dv k=some (vk k)∧cW k=some (vk k):=by
 obtain⟨b,h1,h2⟩:=HM h;unfold vk;rw [h1,h2]; exact⟨rfl,rfl⟩
def CH (k:ah):Bool:=(k.Kind:Int)==1||(k.Kind:Int)==2||(k.Kind:Int)==30
theorem Ex (k:ah):oK k=some (CH k):=by
 unfold oK lS CH;cases (k.Kind:Int)==1 <;> cases (k.Kind:Int)==2 <;> cases (k.Kind:Int)==30 <;> rfl
theorem Az:∀ {l:List ah},(∀ k a b,l[k]? = some a→l[k+1]? = some b→cu a b<0)→Ch l
 | [],_=>uL
 | [a],_=>HW _ _
 | a::b::r,h=>by
  have h1:cu a b<0:=h 0 a b rfl rfl;have h2:Ch (b::r):=Az fun k x y hx hy=>h (k+1) x y hx hy;refine si.2 ⟨fun y hy=>?_,h2⟩;rcases ee.1 hy with rfl | hy
  ·exact h1
  ·exact ni h1 ((si.1 h2).1 y hy)
theorem Ji {k:ah} (h:k.Text.size≤140737488355328) (hv:vk k=true):k.Text.size≤1073741824:=by
 have e:=(A7 h).1;rw [hv] at e;by_cases ht:30≤k.Kind∧k.Kind≤32
 ·unfold dv at e;rw [zy,decide_eq_true ht,yR h] at e;have hn:0≤xM k:=by simpa using e
  have hl:k.Text.toList.length≤9:=by
   refine u6 fun hc=>?_;have hd:qU k.Text.toList = -1:=by
    unfold qU;rw [if_pos (.inr (.inl (by omega)))]
   unfold xM y6 at hn;rw [if_pos ht,hd] at hn;split at hn <;> omega
  have:k.Text.toList.length=k.Text.size:=by rw [ByteArray.toList_eq,Array.length_toList]; rfl
  omega
 ·unfold dv lT jW fO iC at e;rw [zy,decide_eq_false ht] at e;simp only [aq,cond_false] at e;refine u6 fun hc=>?_;have h3:¬ (k.Text.size:Int)≤1073741824:=by omega
  by_cases h1:1≤k.Kind <;> by_cases h2:k.Kind≤22 <;> simp [h1,h2,h3] at e
theorem Kg {f:ah→Option Bool} {s:List ah} (p:ah→Bool) (hl:Rm s.length) (hf:∀ x∈s,f x=some (p x)):gm f s=some (s.any p):=by
 unfold Rm at hl;have e:=iO (B:=fun k:Int=>ff s f k) (xs:=s) p (fun n=>(n:Int)) (s0:=0) rfl (y:=fun k _=>Fl.out (S:=Unit) (k:Int)) (n:=Fl.go ())
  (fun k x hx hp=>by
   have:=aV hx;unfold ff;rw [cM hx,cond_true,aM,hx,aq,hf _ (aG hx),hp,cc (by omega)]; rfl)
  (fun k x hx hp=>by
   unfold ff;rw [cM hx,cond_true,aM,hx,aq,hf _ (aG hx),hp]; rfl)
  (by
   unfold ff;rw [bA]; rfl)
 unfold gm oH;rcases e with⟨k,x,h1,h2,_,h3⟩|⟨h1,h2⟩
 ·rw [h3,sh.2 ⟨x,aG h1,h2⟩];show some (decide ((0:Int)≤(k:Int)))=some true;rw [decide_eq_true (by omega)]
 ·rw [h2,zP.2 fun x hx=>by rw [h1 x hx]; decide]; rfl
theorem Kh {f:ab→Option Bool} {g:ab→Bool} {s:List ab} (hl:Rm s.length) (h:∀ x∈s,f x=some (g x)):ba f s=some (s.any g):=by
 unfold Rm at hl;have e:=iO (B:=fun k:Int=>cg s f k) (xs:=s) g (fun n=>(n:Int)) (s0:=0) rfl (y:=fun k _=>Fl.out (S:=Unit) (k:Int)) (n:=Fl.go ())
  (fun k x hx hp=>by
   have:=aV hx;unfold cg;rw [cM hx,cond_true,aM,hx,aq,h _ (aG hx),hp,cc (by omega)]; rfl)
  (fun k x hx hp=>by
   unfold cg;rw [cM hx,cond_true,aM,hx,aq,h _ (aG hx),hp]; rfl)
  (by
   unfold cg;rw [bA]; rfl)
 unfold ba dt;rcases e with⟨k,x,h1,h2,_,h3⟩|⟨h1,h2⟩
 ·rw [h3,sh.2 ⟨x,aG h1,h2⟩];show some (decide ((0:Int)≤(k:Int)))=some true;rw [decide_eq_true (by omega)]
 ·rw [h2,zP.2 fun x hx=>by rw [h1 x hx]; decide]; rfl
structure Kd (r:ab):Prop where
 reads:r.Reads.length≤1000
 text:r.Key.Text.size≤140737488355328
 texts:∀ k∈r.Reads,k.Text.size≤140737488355328
noncomputable def JX (r:ab):Bool:=vk r.Key && !CH r.Key&&decide ((r.Value.size:Int)≤1073741824)&&decide ((r.Reads.length:Int)≤4000)&&(!r.Dirty||pA r.Key)&&decide (0≤r.Changed)&&decide (r.Changed≤r.Verified)&&decide (r.Verified≤1073741824)&&decide (1≤r.Cost)&&decide (r.Cost≤1073741824) && !(r.Reads.any fun k=>!vk k)
theorem NB (a b:Int):decide (b<a) = !decide (a≤b):=by
 by_cases h:a≤b
 ·rw [decide_eq_true h,decide_eq_false (by omega)]; rfl
 ·rw [decide_eq_false h,decide_eq_true (by omega)]; rfl
theorem D3 {r:ab} (h:Kd r):ke r=some (JX r)∧lw r=some (JX r):=by
 have hl:=h.reads;obtain⟨k1,k2⟩:=A7 h.text;have hi:=Ex r.Key;have hi2:cC r.Key=some (CH r.Key):=by rw [← BB]; exact hi
 have c1:=AO r.Key;have c2:=fL r.Key;have hc:gm gR r.Reads=some (r.Reads.any fun k=>!vk k):=Kg (fun k=>!vk k) (by unfold Rm; omega) fun k hk=>by
  unfold gR;rw [(A7 (h.texts k hk)).1]; rfl
 have hlp:loop (fun s:Int=>ez r s) 0=some (if (r.Reads.any fun k=>!vk k) then Fl.out false else Fl.go ()):=by
  refine nY (xs:=r.Reads) (fun k=>!vk k) (fun i=>(i:Int)) rfl (fun i k hk hp=>?_) (fun i k hk hp=>?_) ?_
  ·unfold ez;rw [cM hk,cond_true,aM,hk,aq,(A7 (h.texts k (aG hk))).2,aq,hp,cond_false,cc (by have:=aV hk; omega)]
  ·unfold ez;rw [cM hk,cond_true,aM,hk,aq,(A7 (h.texts k (aG hk))).2,aq,hp,cond_true]
  ·unfold ez;rw [bA]; rfl
 unfold JX;obtain⟨an,han⟩:∃ an,an=r.Reads.any fun k=>!vk k:=⟨_,rfl⟩;rw [← han] at hc hlp ⊢;refine⟨?_,?_⟩
 ·unfold ke cY dK;rw [k1,hi,c1,hc,NB,NB];generalize vk r.Key=v;generalize CH r.Key=i;generalize pA r.Key=c;generalize decide ((r.Value.size:Int)≤1073741824)=x1;generalize decide ((r.Reads.length:Int)≤4000)=x2;generalize decide (0≤r.Changed)=x3;generalize decide (r.Changed≤r.Verified)=x4;generalize decide (r.Verified≤1073741824)=x5;generalize decide (1≤r.Cost)=x6;generalize decide (r.Cost≤1073741824)=x7;cases v <;> cases i <;> try rfl
  cases x1 <;> cases x2 <;> try rfl
  cases r.Dirty <;> cases c <;> cases x3 <;> cases x4 <;> cases x5 <;> cases x6 <;> cases x7 <;> rfl
 ·unfold lw;rw [hlp,aq];cases an
  ·simp only [Dq,if_false,Fl.el];unfold jC cp;rw [k2,hi2,c2];generalize vk r.Key=v;generalize CH r.Key=i;generalize pA r.Key=c;generalize decide ((r.Value.size:Int)≤1073741824)=x1;generalize decide ((r.Reads.length:Int)≤4000)=x2;generalize decide (0≤r.Changed)=x3;generalize decide (r.Changed≤r.Verified)=x4;generalize decide (r.Verified≤1073741824)=x5;generalize decide (1≤r.Cost)=x6;generalize decide (r.Cost≤1073741824)=x7;cases v <;> cases i <;> try rfl
   cases x1 <;> cases x2 <;> try rfl
   cases r.Dirty <;> cases c <;> cases x3 <;> cases x4 <;> cases x5 <;> cases x6 <;> cases x7 <;> rfl
  ·simp [Fl.el]
noncomputable def zX (l:List ab) (k:Nat):Bool:=match l[k]? with
 | none=>false
 | some c=>!(JX c)||(match k with
  | 0=>false
  | j+1=>match l[j]? with
   | none=>false
   | some p=>decide (0≤cu p.Key c.Key))
theorem pD {n k x:Nat} (h:(List.range n)[k]? = some x):x=k∧k<n:=by
 obtain⟨h1,h2⟩:=bH.1 h;rw [xF] at h1;rw [List.getElem_range] at h2;exact⟨h2.symm,h1⟩
section
variable {l:List ab} (hs:∀ c∈l,Kd c) (hl:l.length≤4000)
include hs hl
theorem sR {k:Nat} (hk:k<l.length):cK l (k:Int)=some (bif zX l k then .out (.out false) else .go ((k+1:Nat):Int))∧cX l (k:Int)=some (bif zX l k then .out (.out false) else .go ((k+1:Nat):Int)):=by
 obtain⟨c,hx⟩:∃ c,l[k]? = some c:=⟨_,bq hk⟩;have hc:=D3 (hs c (aG hx));unfold cK cX zX;rw [cM hx,cond_true,cond_true,aM,hx,aq,aq,hc.1,hc.2,aq,aq];dsimp only;unfold db dp;rw [cc (by omega)];generalize JX c=v
 match k,hk with
 | 0,_ =>
  rw [show decide ((0:Int)<((0:Nat):Int))=false from rfl];dsimp only;cases v <;> exact⟨rfl,rfl⟩
 | j+1,hk =>
  obtain⟨p,hp⟩:∃ p,l[j]? = some p:=⟨_,bq (by omega)⟩;rw [decide_eq_true (show (0:Int)<((j+1:Nat):Int) by omega),show IntKind.i64.wrap (((j+1:Nat):Int)-1)=(j:Int) by rw [gM (by omega) (by omega)]; omega,aM];dsimp only;rw [hp];dsimp only;simp only [aq,yu,jK];generalize decide (0≤cu p.Key c.Key)=q;cases v <;> cases q <;> exact⟨rfl,rfl⟩
omit hs hl in
noncomputable def J3 (l:List ab):Bool:=!((List.range l.length).any (zX l))&&decide ((l.length:Int)≤4000)
theorem D6:e9 l=some (J3 l)∧fU l=some (J3 l):=by
 have e1:loop (fun s:Int=>cK l s) 0=some (if (List.range l.length).any (zX l) then Fl.out false else Fl.go ()) :=
  nY (xs:=List.range l.length) (zX l) (fun n=>(n:Int)) rfl
   (fun k x h hp=>by obtain⟨rfl,h1⟩:=pD h; rw [(sR hs hl h1).1,hp]; rfl)
   (fun k x h hp=>by obtain⟨rfl,h1⟩:=pD h; rw [(sR hs hl h1).1,hp]; rfl)
   (by rw [xF]; unfold cK; rw [bA]; rfl)
 have e2:loop (fun s:Int=>cX l s) 0=some (if (List.range l.length).any (zX l) then Fl.out false else Fl.go ()) :=
  nY (xs:=List.range l.length) (zX l) (fun n=>(n:Int)) rfl
   (fun k x h hp=>by obtain⟨rfl,h1⟩:=pD h; rw [(sR hs hl h1).2,hp]; rfl)
   (fun k x h hp=>by obtain⟨rfl,h1⟩:=pD h; rw [(sR hs hl h1).2,hp]; rfl)
   (by rw [xF]; unfold cX; rw [bA]; rfl)
 unfold e9 fU J3;rw [e1,e2];cases (List.range l.length).any (zX l) <;> exact⟨rfl,rfl⟩
omit hl in
theorem FT (h:J3 l=true):xV l∧∀ r∈l,kq r:=by
 unfold J3 at h;simp only [pR,uh,zP,vG,decide_eq_true_eq] at h;obtain⟨h1,h2⟩:=h;have hb:∀ k c,l[k]? = some c→JX c=true∧∀ j p,k=j+1→l[j]? = some p→cu p.Key c.Key<0:=fun k c hc=>by
  have hb:=h1 k (aV hc);unfold zX at hb;rw [hc] at hb;dsimp only at hb;refine⟨?_,fun j p hk hp=>?_⟩
  ·cases hv:JX c with
   | true=>rfl
   | false=>rw [hv] at hb; exact absurd rfl hb
  ·subst hk;dsimp only at hb;rw [hp] at hb;dsimp only at hb;refine u6 fun hc=>hb ?_;rw [decide_eq_true (by omega),Bool.or_true]
 constructor
 ·have:Ch (l.map ab.Key):=Az fun k a b ha hb'=>by
   rw [qf] at ha hb';obtain⟨p,hp,rfl⟩:=BX.1 ha;obtain⟨c,hc,rfl⟩:=BX.1 hb';exact (hb _ c hc).2 k p rfl hp
  exact xi.1 this
 ·intro r hr;obtain⟨k,hk⟩:=gt.1 hr;have hv:=(hb k r hk).1;unfold JX at hv;simp only [pR,decide_eq_true_eq] at hv;obtain⟨⟨⟨⟨⟨⟨⟨⟨⟨⟨v1,v2⟩,v3⟩,v4⟩,v5⟩,v6⟩,v7⟩,v8⟩,v9⟩,v10⟩,v11⟩:=hv;exact⟨⟨Ji (hs r hr).text v1,by omega,by omega⟩,by omega,by omega⟩
end
structure vO (b:am):Prop where
 nin:b.Inputs.length≤64
 nrec:b.Records.length≤40
 recs:∀ r∈b.Records,Kd r
 ins:∀ x∈b.Inputs,x.Key.Text.size≤140737488355328
noncomputable def zW (b:am) (k:Nat):Bool:=match b.Inputs[k]? with
 | none=>false
 | some c=>!(vk c.Key)||(!(CH c.Key)||((match k with
  | 0=>false
  | j+1=>match b.Inputs[j]? with
   | none=>false
   | some p=>decide (0≤cu p.Key c.Key))||(decide ((1073741824:Int)<(c.Value.size:Int))||(decide (c.Changed<0)||decide (b.Revision<c.Changed)))))
section
variable {b:am} (h:vO b)
include h
theorem sQ {k:Nat} (hk:k<b.Inputs.length):df b (k:Int)=some (bif zW b k then .out (.out false) else .go ((k+1:Nat):Int))∧eE b (k:Int)=some (bif zW b k then .out (.out false) else .go ((k+1:Nat):Int)):=by
 have hn:=h.nin;obtain⟨c,hx⟩:∃ c,b.Inputs[k]? = some c:=⟨_,bq hk⟩;have hc:=A7 (h.ins c (aG hx));unfold df eE zW jL iM;rw [cM hx,cond_true,cond_true,aM,hx,aq,aq,hc.1,hc.2,aq,aq,← BB,Ex,aq,aq];dsimp only;unfold bW cD;rw [cc (by omega)];generalize vk c.Key=v;generalize CH c.Key=i;generalize decide ((1073741824:Int)<(c.Value.size:Int))=s;generalize decide ((c.Changed:Int)<0)=s1;generalize decide ((b.Revision:Int)<c.Changed)=s2
 match k,hk with
 | 0,_ =>
  rw [show decide ((0:Int)<((0:Nat):Int))=false from rfl];dsimp only;cases v <;> cases i <;> cases s <;> cases s1 <;> cases s2 <;> exact⟨rfl,rfl⟩
 | j+1,hk =>
  obtain⟨p,hp⟩:∃ p,b.Inputs[j]? = some p:=⟨_,bq (by omega)⟩;rw [decide_eq_true (show (0:Int)<((j+1:Nat):Int) by omega),show IntKind.i64.wrap (((j+1:Nat):Int)-1)=(j:Int) by rw [gM (by omega) (by omega)]; omega,aM];dsimp only;rw [hp];dsimp only;simp only [aq,yu,jK];generalize decide (0≤cu p.Key c.Key)=q;cases v <;> cases i <;> cases s <;> cases s1 <;> cases s2 <;> cases q <;> exact⟨rfl,rfl⟩
omit h in
noncomputable def J2 (b:am):Bool:=decide (0≤b.Revision)&&decide (b.Revision≤1073741824)&&J3 b.Records && !((List.range b.Inputs.length).any (zW b)) && !(b.Records.any fun x=>decide (b.Revision<x.Verified))
theorem HO:hO b=some (J2 b)∧fw b=some (J2 b):=by
 have hn:=h.nin;have hr:=h.nrec;obtain⟨v1,v2⟩:=D6 h.recs (by omega);have e1:loop (fun s:Int=>df b s) 0=some (if (List.range b.Inputs.length).any (zW b) then Fl.out false else Fl.go ()) :=
  nY (xs:=List.range b.Inputs.length) (zW b) (fun n=>(n:Int)) rfl
   (fun k x hx hp=>by obtain⟨rfl,h1⟩:=pD hx; rw [(sQ h h1).1,hp]; rfl)
   (fun k x hx hp=>by obtain⟨rfl,h1⟩:=pD hx; rw [(sQ h h1).1,hp]; rfl)
   (by rw [xF]; unfold df; rw [bA]; rfl)
 have e2:loop (fun s:Int=>eE b s) 0=some (if (List.range b.Inputs.length).any (zW b) then Fl.out false else Fl.go ()) :=
  nY (xs:=List.range b.Inputs.length) (zW b) (fun n=>(n:Int)) rfl
   (fun k x hx hp=>by obtain⟨rfl,h1⟩:=pD hx; rw [(sQ h h1).2,hp]; rfl)
   (fun k x hx hp=>by obtain⟨rfl,h1⟩:=pD hx; rw [(sQ h h1).2,hp]; rfl)
   (by rw [xF]; unfold eE; rw [bA]; rfl)
 have e3:loop (fun s:Int=>eC b s) 0=some (if b.Records.any (fun x=>decide (b.Revision<x.Verified)) then Fl.out false else Fl.go ()) :=
  nY (xs:=b.Records) (fun x=>decide (b.Revision<x.Verified)) (fun n=>(n:Int)) rfl
   (fun k x hx hp=>by have:=aV hx; unfold eC; rw [cM hx,cond_true,aM,hx,aq,hp,cc (by omega)]; rfl)
   (fun k x hx hp=>by unfold eC; rw [cM hx,cond_true,aM,hx,aq,hp]; rfl)
   (by unfold eC; rw [bA]; rfl)
 have e4:ba (fun x0=>gH x0 b) b.Records=some (b.Records.any fun x=>decide (b.Revision<x.Verified)):=Kh (by unfold Rm; omega) fun x _=>rfl;unfold J2;constructor
 ·unfold hO fN;rw [v1,e1,e4,NB b.Revision 1073741824,decide_eq_false (show ¬ (64:Int)<(b.Inputs.length:Int) by omega),show decide ((b.Revision:Int)<0) = !decide (0≤b.Revision) from NB 0 b.Revision];generalize decide (0≤b.Revision)=x1;generalize decide (b.Revision≤1073741824)=x2;generalize J3 b.Records=x3;generalize (List.range b.Inputs.length).any (zW b)=x4;generalize (b.Records.any fun x=>decide (b.Revision<x.Verified))=x5;cases x1 <;> cases x2 <;> cases x3 <;> cases x4 <;> cases x5 <;> rfl
 ·unfold fw jF jE gW;rw [v2,e2,e3,decide_eq_true (show (b.Inputs.length:Int)≤64 by omega)];generalize decide (0≤b.Revision)=x1;generalize decide (b.Revision≤1073741824)=x2;generalize J3 b.Records=x3;generalize (List.range b.Inputs.length).any (zW b)=x4;generalize (b.Records.any fun x=>decide (b.Revision<x.Verified))=x5;cases x1 <;> cases x2 <;> cases x3 <;> cases x4 <;> cases x5 <;> rfl
theorem vO.rm:Bc b.Records∧Rm b.Inputs.length:=by
 have h1:=h.nrec;have h2:=h.nin;refine⟨⟨by unfold Rm; omega,fun r hr=>?_⟩,by unfold Rm; omega⟩;have:=(h.recs r hr).reads;unfold Rm; omega
theorem vO.copy:iV b=some b∧eA b=some b:=by
 have hn:=h.nin;obtain⟨h1,h2⟩:=h.rm;refine⟨?_,tF h1 h2⟩;unfold iV cE;rw [dX (by simp; omega),Bj h1];simp [gd]
end
end
section
open Go.RowKit
open Go.Lib hiding intOf
theorem zE {b:am} (h:vO b) (hv:J2 b=true):xV b.Records∧∀ r∈b.Records,kq r:=by
 unfold J2 at hv;simp only [pR] at hv;exact FT h.recs hv.1.1.2
theorem DK {b:am} (h:vO b) {keep:List ah} (hk:Rm keep.length) (n:Int):∃ y,bY b n keep=some y∧eR b n keep=some y∧Bc y.1.Records∧Rm y.1.Inputs.length∧Rm y.2.1.length:=by
 obtain⟨v1,v2⟩:=HO h;have hnil:Bc (am.mk 0 ([]:List aZ) ([]:List ab)).Records∧Rm (am.mk 0 ([]:List aZ) ([]:List ab)).Inputs.length∧Rm ([]:List ah).length:=⟨⟨by unfold Rm; simp,fun r hr=>absurd hr ou⟩,by unfold Rm; simp,by unfold Rm; simp⟩;cases hv:J2 b with
 | false =>
  rw [hv] at v1 v2;exact⟨_,by unfold bY; rw [v1]; rfl,by unfold eR; rw [v2]; rfl,hnil⟩
 | true =>
  rw [hv] at v1 v2;by_cases n0:n<0
  ·exact⟨_,by unfold bY; rw [v1,decide_eq_true n0]; rfl,by unfold eR; rw [v2,decide_eq_true n0]; rfl,hnil⟩
  by_cases n1:1073741824<n
  ·exact⟨_,by unfold bY; rw [v1,decide_eq_false n0,decide_eq_true n1]; rfl,by unfold eR; rw [v2,decide_eq_false n0,decide_eq_true n1]; rfl,hnil⟩
  obtain⟨ha,hco⟩:=zE h hv;have hz:∀ r∈b.Records,vd r:=fun r hr=>(hco r hr).sz;have hn:=h.nrec;obtain⟨hrm,hri⟩:=h.rm;obtain⟨c1,c2⟩:=h.copy;obtain⟨s,s1,s2,s3⟩:=EL hco hn;obtain⟨z,z1,z2,z3⟩:=EO hco (by omega);have hnod:(b.Records.map ab.Key).Nodup:=lV (f:=ab.Key) ha;have ezs:z=s:=zt (z2.trans s2.symm) z3 s3 (((s2.map ab.Key).nodup_iff).2 hnod);subst ezs;obtain⟨m,m1,m2,m3,m4⟩:=yI (n:=n) (keep:=keep) hrm ha hz (by omega) hk s2;have et:=rE hz (by omega);rw [← oY s2] at et;have hE:bY b n keep=some (am.mk b.Revision b.Inputs (dg b.Records (((a7 keep z).take m).map ab.Key)),((a7 keep z).take m).map ab.Key,0):=by
   unfold bY;rw [v1,aq,decide_eq_false n0,decide_eq_false n1,c1];simp only [eI,cond_false];rw [aq,et,aq,s1,aq,m4,aq];rfl
  have hl:=Ap hrm hz (by omega) hk s2 hnod ⟨m1,m2,m3,hE⟩;refine⟨_,hE,?_,uw hrm _,hri,?_⟩
  ·unfold eR;rw [v2,aq,decide_eq_false n0,decide_eq_false n1,c2];simp only [eI,cond_false];rw [aq,z1,aq,hl,aq];rfl
  ·have h1:(a7 keep z).length≤z.length:=Dn _ _;have h2:=s2.length_eq;unfold Rm;rw [gc,dh];omega
theorem CX {b:am} (h:vO b) (hv:J2 b=true):∃ l:List ah,dS b.Records=some l∧pN b.Records=some l∧Rm l.length:=by
 obtain⟨ha,hco⟩:=zE h hv;have hn:=h.nrec;obtain⟨s,s1,s2,s3⟩:=EL hco hn;obtain⟨z,z1,z2,z3⟩:=EO hco (by omega);have hnod:(b.Records.map ab.Key).Nodup:=lV (f:=ab.Key) ha;have ezs:z=s:=zt (z2.trans s2.symm) z3 s3 (((s2.map ab.Key).nodup_iff).2 hnod);subst ezs;have hlen:=s2.length_eq;refine⟨_,s1,?_,by unfold Rm; rw [gc]; omega⟩;unfold pN;rw [z1,aq];rw [show loop (fun t:(List ah)×Int=>jI z t.1 t.2) (([]:List ah),0)=some (z.map ab.Key) from cG (xs:=z) (fun n=>((z.take n).map ab.Key,(n:Int))) rfl (fun n r hx=>by
  have hn:=aV hx;dsimp only;unfold jI;rw [cM hx,cond_true,aM,hx,aq,uS (dX (by simp; omega)),cc (by omega),bw hx,sK];rfl) (by
  dsimp only;unfold jI;rw [bA,i7]; rfl)]
 rfl
section
variable {b:am} (h:vO b) {keep:List ah} (hk:keep.length≤40)
include h hk
theorem Gw {sm:List ah} (hs:sm.length≤40) (e:Int):loop (fun s:(List (List ah))×Int=>eK keep b.Revision b.Inputs b.Records sm e s.1 s.2) ([[],keep,sm],0)=some (Fl.go ()):=by
 refine cG (xs:=[[],keep,sm]) (fun n=>([[],keep,sm],(n:Int))) rfl (fun n q hx=>?_) ?_
 ·dsimp only;have hq:Rm q.length:=by
   have hm:=aG hx;simp only [ee,ou,or_false] at hm;rcases hm with rfl | rfl | rfl <;> (unfold Rm; simp; try omega)
  obtain⟨y,y1,y2,y3,y4,y5⟩:=DK h hq e;have hn:=aV hx;simp only [d8,jR] at hn;unfold eK;rw [cM hx,cond_true,aM,hx,aq];show ((bY b e q).bind _)=_;rw [y1,aq];show ((eR b e q).bind _)=_;rw [y2,aq];show ((ly y.1 y.1).bind _)=_;rw [A4 y3 y4,aq,mK y5];simp only [eI,cond_false,aq,bne_self_eq_false];rw [cc (by omega)]
 ·dsimp only;unfold eK;rw [bA]; rfl
theorem Gu {sm:List ah} (hs:sm.length≤40) (n:Int):fZ n keep b.Revision b.Inputs b.Records sm=some true:=by
 obtain⟨r1,_,e1⟩:=yZ n (m:=250) (by omega) (by omega);obtain⟨r2,_,e2⟩:=yZ n (m:=3) (by omega) (by omega);obtain⟨r3,_,e3⟩:=yZ n (m:=2) (by omega) (by omega);unfold fZ;refine d7 e1 (d7 e2 (d7 e3 ?_));generalize hxs:[n,(r1:Int),IntKind.i64.wrap ((r2:Int)-1),IntKind.i64.wrap (1073741824+(r3:Int))]=xs;have hlen:xs.length=4:=by rw [← hxs]; rfl
 rw [show loop (fun s:(List ah)×(List Int)×Int=>eL n keep b.Revision b.Inputs b.Records (r1:Int) (r2:Int) (r3:Int) s.1 s.2.1 s.2.2) (sm,xs,0)=some (Fl.go ()) from cG (xs:=xs) (fun k=>(sm,xs,(k:Int))) rfl (fun k e hx=>by
  dsimp only;have hn:=aV hx;unfold eL;rw [hxs,cM hx,cond_true,aM,hx,aq,Gw h hk hs e,aq];show fY _ _ _=_;unfold fY;rw [cc (by omega)]) (by
  dsimp only;unfold eL;rw [hxs,bA]; rfl),aq]
 show fX=_;unfold fX;rw [qo]; rfl
theorem Gv {u:(List aR)×am×aW} (hd:bO u.2.2.L u.2.2.At) (n:Int):dz n keep u b.Revision b.Inputs b.Records false=some true:=by
 have hn:=h.nrec;refine y8 ?_;unfold dz;rw [cond_false];refine bG (fun (k:Nat) (s:(List ah)×Int×(List Int)×Int)=>s.1.length≤k∧s.2.1=(k:Int)∧bO s.2.2.1 s.2.2.2) (fun r=>r.length≤40) b.Records.length ⟨ce _,rfl,hd⟩ (fun k s hk2 hI=>?_) (fun r hr=>⟨true,Gu h hk hr n,rfl⟩);obtain⟨sm,g,d,j⟩:=s;obtain⟨h1,h2,h3⟩:=hI;dsimp only at h1 h2 h3 ⊢;subst h2;unfold jc;refine aC (fun e=>?_) (fun _=>ap (show _≤_ by omega));have hlt:k<b.Records.length:=by have:=of_decide_eq_true e; omega
 have hx:b.Records[k]? = some b.Records[k]:=bq hlt;rw [aM,hx,aq];refine aL (cZ h3 (by omega) (by omega)) fun y ⟨_,_,d2⟩=>?_;refine aC (fun _=>?_) (fun _=>?_)
 ·refine fF (dX (by simp; omega)) ?_;unfold eJ;exact ap (show _∧_ from ⟨hlt,by dsimp only; rw [bL,nN]; omega,cc (by omega),d2⟩)
 ·unfold eJ;exact ap (show _∧_ from ⟨hlt,by dsimp only; omega,cc (by omega),d2⟩)
theorem yF {u:(List aR)×am×aW} (hd:bO u.2.2.L u.2.2.At) (n:Int):dA n keep u b.Revision b.Inputs b.Records=some true:=by
 have hn:=h.nrec;have e:=Gv h hk hd n;unfold dA;show ((fw b).bind _)=_;rw [(HO h).2,aq];cases hv:J2 b with
 | false=>rw [cond_false]; exact e
 | true =>
  obtain⟨ha,hco⟩:=zE h hv;have hz:∀ r∈b.Records,vd r:=fun r hr=>(hco r hr).sz;obtain⟨l,l1,l2,l3⟩:=CX h hv;rw [cond_true,rE hz (by omega),aq,xz hz (by omega),aq,bne_self_eq_false,cond_false,l1,aq,l2,aq,mK l3,aq];exact e
end
theorem wS {l:List aR} (hl:l.length≤8) {k:ah} (h:oA l k):k.Text.size≤140737488355328:=by
 rcases h with⟨c,hc,rfl⟩|⟨n,hn,rfl⟩
 ·have:=ur (n:=c) (by omega);show (cj c).size≤_;omega
 ·have:=ur (n:=n) (by omega);show (cj n).size≤_;omega
theorem jm.raw {l:List aR} {b:am} (h:jm l b) (hl:l.length≤8) (r:Int):vO ⟨r,b.Inputs,b.Records⟩:=by
 have hn:=h.nrec;have hi:=h.nin;refine⟨by show b.Inputs.length≤64; omega,by show b.Records.length≤40; omega,fun x hx=>?_,fun x hx=>?_⟩
 ·have hr:=h.recs x hx;obtain⟨n,hn,e⟩:=hr.key;have h3:=hr.reads;exact⟨by omega,wS hl (.inr ⟨n,hn,e⟩),fun k hk=>wS hl (hr.good k hk)⟩
 ·obtain⟨c,hc,e⟩:=(h.ins x hx).key;exact wS hl (.inl ⟨c,hc,e⟩)
section
variable {raw:am} {t:List Int} {keep:List ah}
theorem Fr (hraw:vO raw) (ht:t.length≤400) (hk:keep.length≤40) (n what:Int):dV raw t n keep what=some true:=by
 refine y8 ?_;unfold dV;refine aN (v:=aW.mk t 0) rfl (aL (xB (d:=t) (i:=0) ⟨by omega,by omega,ht⟩) fun u ⟨hR,hB,hd⟩=>aL (BF what (by omega) (by omega)) fun m _=>?_);have hl:=hR.high;refine aC (fun _=>⟨true,yF hraw hk hd n,rfl⟩) fun _=>aC (fun _=>?_) fun _=>⟨true,yF (hB.raw hl u.2.1.Revision) hk hd n,rfl⟩;exact aL (BF _ (by omega) (by omega)) fun q _=>⟨true,yF (hB.raw hl (IntKind.i64.wrap (u.2.1.Revision-q))) hk hd n,rfl⟩
theorem Gt (hr:∀ r∈raw.Records,r.Key.Text.size≤140737488355328∧∀ k∈r.Reads,k.Text.size≤140737488355328) (hi:∀ x∈raw.Inputs,x.Key.Text.size≤140737488355328) (n what:Int):jq raw t n keep what=some true:=by
 unfold jq;rw [qo];cases h1:decide ((40:Int)<(raw.Inputs.length:Int)) with
 | true=>rfl
 | false =>
 have h1:=of_decide_eq_false h1;cases h2:decide ((40:Int)<(raw.Records.length:Int)) with
 | true=>rfl
 | false =>
 have h2:=of_decide_eq_false h2;cases h3:decide ((40:Int)<(keep.length:Int)) with
 | true=>rfl
 | false =>
 have h3:=of_decide_eq_false h3;rw [cond_false,cond_false,cond_false];rcases i6 400 t.length with ht | ht
 ·rw [rO (by omega)]; rfl
 rw [sZ ht,aq,eI,cond_false];have e:loop (fun s:Int=>dk raw s) 0=some (if raw.Records.any (fun z=>decide ((100:Int)<(z.Reads.length:Int))) then Fl.out true else Fl.go ()) :=
  nY (xs:=raw.Records) (fun z=>decide ((100:Int)<(z.Reads.length:Int))) (fun n=>(n:Int)) rfl
   (fun k z hz hp=>by
    have:=aV hz;unfold dk;rw [cM hz,cond_true,aM,hz,aq,hp,cond_false,cc (by omega)])
   (fun k z hz hp=>by
    unfold dk;rw [cM hz,cond_true,aM,hz,aq,hp,cond_true,qo,aq])
   (by unfold dk; rw [bA]; rfl)
 rw [e,aq];cases ha:raw.Records.any (fun z=>decide ((100:Int)<(z.Reads.length:Int))) with
 | true=>rfl
 | false =>
  show dV raw t n keep what=some true;refine Fr ⟨by omega,by omega,fun r hm=>?_,hi⟩ ht (by omega) n what;have h4:=zP.1 ha r hm;have h5:¬ (100:Int)<(r.Reads.length:Int):=by simpa using h4
  exact⟨by omega,(hr r hm).1,(hr r hm).2⟩
end
end
end Go.Proofs.YtdcojaccpnabkaaGreatDoor
