/- Texts of the proof, joined (3). -/
import Derived.Test.YtmfcloapbgfhaaaGreatDoorA0
import Derived.Test.YtmfcloapbgfhaaaGreatDoorA2
import Derived.Test.YtmfcloapbgfhaaaGreatDoorA1
set_option linter.unusedVariables false
set_option linter.unusedSimpArgs false
set_option linter.unusedSectionVars false
namespace Go.Proofs.YtmfcloapbgfhaaaGreatDoor
section
open Go.RowKit
open Go.Lib hiding intOf
theorem ol (n:Nat):itoa (n:Int)=decDigits n:=by
 unfold itoa
 first | rw [if_neg (by omega)]; simp | simp
noncomputable def bz (n:Nat):ah:=⟨30,cZ n⟩
theorem rn {n:Nat} (h:n<1000000000):w6 n=some (cZ n):=by
 unfold w6 MI;rw [show (decide (-9223372036854775808≤(n:Int))&&decide ((n:Int)≤9223372036854775807))=true by simp; omega];rfl
theorem kq {n:Nat} (h:n<100):c6 n=some (bz n):=by
 unfold c6;rw [show decide ((n:Int)<0)=false by simp,show decide ((99:Int)<(n:Int))=false by simp; omega];simp [cond,rn (show n<1000000000 by omega),bz]
theorem Ew {n:Nat} (h:n<1000):wS (cZ n)=some ((n:Int),false):=by
 unfold wS;have hl:(cZ n).toList=decDigits n:=by rw [pj,ol]
 have hs:(cZ n).size≤140737488355328:=by
  have h1:(cZ n).size=(itoa n).length:=by simp [cZ,ByteArray.size]
  have:=y5 n 3 (by omega);rw [h1,ol]; omega
 rw [show Nat.ble (cZ n).size 140737488355328=true from CY hs,hl,zo (by omega)];rfl
theorem Dz {n:Nat} (h:n<100):dv (bz n)=some true:=by
 have h1:m9 30=some true:=by unfold m9; rfl
 have h2:ko (bz n)=some n:=by
  unfold ko bz;rw [h1];simp only [ax,Ew (show n<1000 by omega),rn (show n<1000000000 by omega)];rw [show decide ((n:Int)<0)=false by simp,show decide ((99:Int)<(n:Int))=false by simp; omega];simp
 unfold dv;rw [show (bz n).Kind=30 from rfl,h1,h2];simp
theorem wx (n:Int) {m:Nat} (hm:0<m) (hm2:m≤1000000000):∃ r:Nat,r<m∧kI n m=some (r:Int):=by
 have h1:=yu n (b:=(m:Int)) (by omega);have h2 : -(m:Int)<Int.tmod n m:=by
  rcases (show n<0∨0≤n by omega) with h | h
  ·have:=yu (-n) (b:=(m:Int)) (by omega);rw [Int.neg_tmod] at this;omega
  ·have:=yt (m:Int) h;omega
 refine⟨(Int.tmod (Int.tmod n m+m) m).toNat,?_,?_⟩
 ·have h3:=yu (Int.tmod n m+m) (b:=(m:Int)) (by omega);have h4:=yt (a:=Int.tmod n m+m) (m:Int) (by omega);omega
 ·unfold kI;have h4:=yt (a:=Int.tmod n m+m) (m:Int) (by omega);rw [show decide ((m:Int)<1)=false by simp; omega,show ((m:Int) != 0)=true by simp; omega,pX (by omega) (by omega),Int.toNat_of_nonneg h4];rfl
theorem Gm {n:Nat} (h:n<1000000000):wS (cZ n)=some ((n:Int),false):=by
 unfold wS;have hl:(cZ n).toList=decDigits n:=by rw [pj,ol]
 have hs:(cZ n).size≤140737488355328:=by
  have h1:(cZ n).size=(itoa n).length:=by simp [cZ,ByteArray.size]
  have:=y5 n 9 (by omega);rw [h1,ol]; omega
 rw [show Nat.ble (cZ n).size 140737488355328=true from CY hs,hl,zo (by omega)];rfl
theorem GP {k:Int} {n:Nat} (hk:k=30∨k=31∨k=32) (h:n<100):ko ⟨k,cZ n⟩=some n:=by
 have h1:m9 k=some true:=by rcases hk with rfl | rfl | rfl <;> (unfold m9; rfl)
 unfold ko;rw [h1];simp only [ax,Gm (show n<1000000000 by omega),rn (show n<1000000000 by omega)];rw [show decide ((n:Int)<0)=false by simp,show decide ((99:Int)<(n:Int))=false by simp; omega];simp
theorem I5 {k:Int} {n:Nat} (hk:k=30∨k=31∨k=32) (h:n<100):dv ⟨k,cZ n⟩=some true:=by
 have h1:m9 k=some true:=by rcases hk with rfl | rfl | rfl <;> (unfold m9; rfl)
 unfold dv;rw [h1,GP hk h];simp
noncomputable def FU (r:aW) (n:Nat):ah:=⟨if r.Ring then 32 else 31,cZ n⟩
theorem GT {l:List aW} {n:Nat} (h:n<l.length) (h100:n<100):lG l n=some (FU l[n] n):=by
 unfold lG;rw [show decide ((n:Int)<0)=false by simp,show decide (((l.length:Int):Int)≤(n:Int))=false by simp; omega,show decide ((99:Int)<(n:Int))=false by simp; omega,bW h,rn (by omega)];simp only [ax,cond_false];unfold qk FU;cases l[n].Ring <;> simp
theorem G3 (s:ByteArray):s.toList.length=s.size:=by rw [ByteArray.toList_eq]; rfl
theorem GD (c:UInt8) (r:List UInt8) (n:Nat):cL (c::r) n=if (decide (48≤c.toNat)&&decide (c.toNat≤57))=true then cL r (10*n+(c.toNat-48)) else -1:=rfl
theorem Ih:bI.toList=[]:=by rw [ByteArray.toList_eq]
theorem HJ (s:ByteArray):kX s=some (sJ s.toList):=by
 have hsz:=G3 s;have j3t:dw s true=some (-1):=by unfold dw; rfl
 have j3f:s.size≤9→dw s false=some (cL s.toList 0):=fun h9=>by
  unfold dw;simp only [cond_false];have key:∃ r,loop (fun s_1:Int×Int=>gN s s_1.1 s_1.2) (0,0)=some r∧Fl.el r (fun s=>gM s) (fun y=>some y)=some (cL s.toList 0):=?_
  ·obtain⟨r,h1,h2⟩:=key;rw [h1]; exact h2
  refine ro (fun k st=>∃ m:Nat,st=((m:Int),(k:Int))∧cL (s.toList.drop k) m=cL s.toList 0∧m<10 ^ k)
   (fun r=>Fl.el r (fun s=>gM s) (fun y=>some y)=some (cL s.toList 0)) s.size (fun k st hk hI=>?_) (fun st hI=>?_) ⟨0,rfl,rfl,by simp⟩
  ·obtain⟨m,rfl,e,hm⟩:=hI;have hk':k<s.toList.length:=by omega
   rw [List.drop_eq_getElem_cons hk'] at e;unfold gN;rw [show decide ((k:Int)<(s.size:Int))=true by simpa using hk,bW hk'];simp only [cond_true,ax];have hp:(10:Nat) ^ k≤10 ^ 8:=CW (by omega) (by omega);have hq:(10:Nat) ^ 8=100000000:=rfl;have hu:=(s.toList[k]).toNat_lt;rw [GD] at e;by_cases h48:((s.toList[k]).toNat:Int)<48
   ·rw [show decide (((s.toList[k]).toNat:Int)<48)=true by simpa using h48];rw [if_neg (by simp; omega)] at e;exact .inr ⟨_,rfl,by rw [← e]; rfl⟩
   ·rw [show decide (((s.toList[k]).toNat:Int)<48)=false by simpa using h48];by_cases h57:(57:Int)<((s.toList[k]).toNat:Int)
    ·rw [show decide ((57:Int)<((s.toList[k]).toNat:Int))=true by simpa using h57];rw [if_neg (by simp; omega)] at e;exact .inr ⟨_,rfl,by rw [← e]; rfl⟩
    ·rw [show decide ((57:Int)<((s.toList[k]).toNat:Int))=false by simpa using h57];rw [if_pos (by simp; omega)] at e;simp only [cond_false];have hw:IntKind.u8.wrap (((s.toList[k]).toNat:Int)-48)=(((s.toList[k]).toNat-48:Nat):Int):=by rw [IntKind.wrap_u8]; omega
     rw [hw,show IntKind.i64.wrap (10*(m:Int))=((10*m:Nat):Int) from (pX (by omega) (by omega)).trans (by omega),show IntKind.i64.wrap (((s.toList[k]).toNat-48:Nat):Int)=(((s.toList[k]).toNat-48:Nat):Int) from pX (by omega) (by omega),
      pX (by omega) (by omega),pX (by omega) (by omega)]
     exact .inl ⟨_,rfl,10*m+((s.toList[k]).toNat-48),by simp,e,by rw [Nat.pow_succ]; omega⟩
  ·obtain⟨m,rfl,e,hm⟩:=hI;rw [← hsz,AH] at e;unfold gN;rw [show decide ((s.size:Int)<(s.size:Int))=false by simp];exact⟨_,rfl,by simp only [Fl.el,gM]; rw [← e]; rfl⟩
 unfold kX sJ;have hz:(s.toList==bI.toList)=decide (s.toList=[]):=by rw [Ih]; cases s.toList <;> rfl
 rw [hz];by_cases h0:s.toList=[]
 ·rw [if_pos (.inl h0),decide_eq_true h0]; exact j3t
 ·rw [decide_eq_false h0];simp only [cond_false];by_cases h9:9<s.toList.length
  ·rw [if_pos (.inr (.inl h9)),show decide ((9:Int)<(s.size:Int))=true by simp; omega]; exact j3t
  ·rw [show decide ((9:Int)<(s.size:Int))=false by simp; omega];have hl:0<s.toList.length:=List.length_pos_iff.2 h0;have h1:bu s.toList (0:Int)=some (s.toList.getD 0 0):=by
    have:=bW hl;simp only [Int.natCast_zero] at this;rw [this,Jd,bS hl]; rfl
   rw [h1];simp only [cond_false,ax];by_cases h48:s.toList.getD 0 0=48
   ·rw [h48,show (((48:UInt8).toNat:Int)==48)=true from rfl];simp only [cond_true,true_and];have hq:(!(s.toList==(ByteArray.mk #[48]).toList))=decide (s.toList≠[48]):=by rw [show (ByteArray.mk #[48]).toList=[48] from by rw [ByteArray.toList_eq]]; by_cases h:s.toList=[48] <;> simp [h]
    rw [hq];by_cases h:s.toList=[48]
    ·rw [decide_eq_false (fun h2=>h2 h),j3f (by omega),if_neg (by rintro (h2 | h2 | h2); exact h0 h2; exact h9 h2; exact h2 h)]
    ·rw [decide_eq_true h,if_pos (.inr (.inr h))]; exact j3t
   ·have h48':((s.toList.getD 0 0).toNat:Int)≠48:=fun h=>h48 (UInt8.toNat_inj.1 (by have:(48:UInt8).toNat=48:=rfl; omega));rw [show (((s.toList.getD 0 0).toNat:Int)==48)=false by simpa using h48'];simp only [cond_false];rw [j3f (by omega),if_neg (by rintro (h2 | h2 | h2); exact h0 h2; exact h9 h2; exact h48 h2.1)]
theorem Hl {M:Nat} (hM:M<1000000000) {s:ByteArray} (hs:s.size≤140737488355328) :
  ∃ p,wS s=some p∧(-9223372036854775808≤p.1→p.1≤9223372036854775807→True)∧A6 M s.toList=(if p.2=true then -1 else if p.1<0∨(M:Int)<p.1 then -1 else if itoa p.1=s.toList then p.1 else -1):=by
 refine⟨_,by unfold wS; rw [show Nat.ble s.size 140737488355328=true from CY hs]; rfl,fun _ _=>trivial,?_⟩;rw [GO M hM];cases atoiAll s.toList <;> simp
theorem GJ {v:Int} (h0:0≤v) (h:v<1000000000):w6 v=some (cZ v):=by
 obtain⟨n,rfl⟩:∃ n:Nat,v=n:=⟨v.toNat,by omega⟩;exact rn (by omega)
def A7 (k:ah):Int:=if 30≤k.Kind∧k.Kind≤32 then A6 99 k.Text.toList else -1
theorem E4 (k:Int):m9 k=some (decide (30≤k∧k≤32)):=by
 unfold m9 rQ;by_cases h1:30≤k <;> by_cases h2:k≤32 <;> simp [h1,h2]
theorem EJ {k:ah} (hs:k.Text.size≤140737488355328):ko k=some (A7 k):=by
 unfold ko A7;rw [E4];by_cases h:30≤k.Kind∧k.Kind≤32
 ·rw [if_pos h,decide_eq_true h];obtain⟨p,h1,_,h2⟩:=Hl (M:=99) (by omega) hs;rw [h1,h2];simp only [ax,dh,cond_false];obtain⟨v,b⟩:=p;cases b with
  | true=>rfl
  | false =>
   simp only [cond_false,F7,if_false];by_cases h3:v<0
   ·simp [h3]
   ·by_cases h4:(99:Int)<v
    ·simp [h3,h4]
    ·rw [GJ (by omega) (by omega),if_neg (by omega),decide_eq_false h3,decide_eq_false h4];simp only [cond_false,ax,pj];by_cases h5:itoa v=k.Text.toList
     ·simp [h5]
     ·rw [if_neg h5,show (itoa v==k.Text.toList)=false by simpa using h5]; rfl
 ·rw [if_neg h,decide_eq_false h]; rfl
theorem pD (k:ah):iP k=some (A7 k):=by
 unfold iP A7 A6;rw [HJ];simp only [ax];unfold iG;have:=Fy k.Text.toList;by_cases h1:30≤k.Kind <;> by_cases h2:k.Kind≤32 <;> by_cases h3:sJ k.Text.toList≤99 <;> simp [h1,h2,h3]
end
section
open Go.RowKit
open Go.Lib hiding intOf
section
variable {σ ρ α:Type} {B:σ→Option (Fl σ ρ)}
theorem vu (st:Nat→σ) (m:Nat) {s0:σ} (h0:s0=st 0) {r:ρ} (hgo:∀ k,k<m→B (st k)=some (.go (st (k+1)))) (hout:B (st m)=some (.out r)):loop B s0=some r:=by
 subst h0;exact za (fun k s=>s=st k) r m (fun k s hk hs=>.inl ⟨st (k+1),by rw [hs]; exact hgo k hk,rfl⟩) (fun s hs=>by rw [hs]; exact hout) rfl
theorem nD {xs:List α} (p:α→Bool) (st:Nat→σ) {s0:σ} (h0:s0=st 0) {y:Nat→α→ρ} {n:ρ} (hgo:∀ k x,xs[k]? = some x→p x=false→B (st k)=some (.go (st (k+1))))
  (hy:∀ k x,xs[k]? = some x→p x=true→B (st k)=some (.out (y k x))) (hn:B (st xs.length)=some (.out n)) :
  (∃ k x,xs[k]? = some x∧p x=true∧(∀ j z,j<k→xs[j]? = some z→p z=false)∧loop B s0=some (y k x))∨(∀ z∈xs,p z=false)∧loop B s0=some n:=by
 by_cases h:xs.findIdx p<xs.length
 ·have e:=bS h;have hp:=List.findIdx_getElem (w:=h);have hb:∀ j z,j<xs.findIdx p→xs[j]? = some z→p z=false:=fun j z hj hz=>by
   have:=List.not_of_lt_findIdx hj;obtain⟨h1,h2⟩:=bN.1 hz;rw [h2] at this; simpa using this
  refine .inl ⟨_,_,e,hp,hb,vu st _ h0 (fun k hk=>?_) (hy _ _ e hp)⟩;have hk2:k<xs.length:=by omega
  exact hgo k _ (bS hk2) (hb k _ hk (bS hk2))
 ·have hb:∀ j z,xs[j]? = some z→p z=false:=fun j z hz=>by
   obtain⟨h1,h2⟩:=bN.1 hz;have:=List.not_of_lt_findIdx (p:=p) (xs:=xs) (i:=j) (by omega);rw [h2] at this; simpa using this
  refine .inr ⟨fun z hz=>?_,vu st xs.length h0 (fun k hk=>hgo k _ (bS hk) (hb k _ (bS hk))) hn⟩;obtain⟨i,hi⟩:=kg.1 hz;exact hb i z hi
theorem kH {xs:List α} (p:α→Bool) (st:Nat→σ) {s0:σ} (h0:s0=st 0) {y n:ρ} (hgo:∀ k x,xs[k]? = some x→p x=false→B (st k)=some (.go (st (k+1))))
  (hy:∀ k x,xs[k]? = some x→p x=true→B (st k)=some (.out y)) (hn:B (st xs.length)=some (.out n)):loop B s0=some (if xs.any p then y else n):=by
 rcases nD p st h0 (y:=fun _ _=>y) hgo hy hn with⟨k,x,h1,h2,_,h3⟩|⟨h1,h2⟩
 ·rw [if_pos (Eh.2 ⟨x,a6 h1,h2⟩)]; exact h3
 ·rw [if_neg (fun h=>by obtain⟨x,hx,e⟩:=Eh.1 h; rw [h1 x hx] at e; cases e)]; exact h2
theorem cD {xs:List α} (st:Nat→σ) {s0:σ} (h0:s0=st 0) {r:ρ} (hgo:∀ k x,xs[k]? = some x→B (st k)=some (.go (st (k+1)))) (hout:B (st xs.length)=some (.out r)):loop B s0=some r :=
 vu st xs.length h0 (fun k hk=>hgo k _ (bS hk)) hout
theorem gr {β γ:Type} {m:Option β} {v:β} {f:β→Option γ} {y:Option γ} (h:m=some v) (k:f v=y):m.bind f=y:=by subst h; exact k
end
theorem aZ {α:Type} (xs:List α) (k:Nat):bu xs (k:Int)=xs[k]?:=by simp [bu]
theorem dlt {k n:Nat} (h:k<n):decide ((k:Int)<(n:Int))=true:=decide_eq_true (by omega)
theorem EG {k n:Nat} (h:¬ k<n):decide ((k:Int)<(n:Int))=false:=decide_eq_false (by omega)
theorem cU {α:Type} {xs:List α} {k:Nat} {x:α} (h:xs[k]? = some x):decide ((k:Int)<(xs.length:Int))=true:=dlt (bN.1 h).1
theorem bA (n:Nat):decide ((n:Int)<(n:Int))=false:=EG (Nat.lt_irrefl _)
theorem cJ {k:Nat} (h:k≤9223372036854775806):IntKind.i64.wrap ((k:Int)+1)=((k+1:Nat):Int):=by rw [pX (by omega) (by omega)]; omega
theorem bc {α:Type} {xs:List α} {k:Nat} {x:α} (h:xs[k]? = some x):k<xs.length:=(bN.1 h).1
theorem b7 {α:Type} {xs:List α} {k:Nat} {x:α} (h:xs[k]? = some x):xs.take (k+1)=xs.take k++[x]:=by
 rw [List.take_add_one,h]; rfl
theorem ul {α:Type} (p:α→Bool) (xs:List α) (k:Nat):((xs.take k).filter p).length≤xs.length :=
 fB (uf _ _) (by rw [fe]; omega)
theorem IQ {α:Type} {xs:List α} {k:Nat} {x:α} (h:xs[k]? = some x):xs.set k x=xs:=by
 obtain⟨h1,h2⟩:=bN.1 h;rw [← h2]; exact List.set_getElem_self h1
def Rm (n:Nat):Prop:=n≤1000000000
theorem ud {α:Type} {xs:List α} {a:Nat} (h:a≤xs.length):o0 xs (a:Int) (xs.length:Int)=some (xs.drop a):=by
 rw [FW h (cX _),i6]
theorem pF {α:Type} {xs:List α} {a:Nat} (h:a≤xs.length):o0 xs 0 (a:Int)=some (xs.take a):=by
 have:=FW (xs:=xs) (cR a) h;rwa [B4] at this
theorem AE {z:Int} (h1 : -1000000000000≤z) (h2:z≤1000000000000):IntKind.i64.wrap z=z:=pX (by omega) (by omega)
end
section
open Go.RowKit
open Go.Lib hiding intOf
structure cp (l:List Int) (at_:Int):Prop where
 low:0≤at_
 high:at_≤l.length
 len:l.length≤400
theorem dN {l:List Int} {i:Int} (h:cp l i) {n:Int} (h1:1≤n) (h2:n≤1000000000):Ok (cg ⟨l,i⟩ n) fun r=>0≤r.1∧r.1<n∧cp r.2.L r.2.At:=by
 unfold cg;refine aF (fun h3=>ar ⟨by omega,by omega,h⟩) (fun h3=>?_);have h3:i<l.length:=by simpa using h3
 have:=h.low; have:=h.high; have:=h.len;dsimp only;rw [show IntKind.i64.wrap (i+1)=i+1 from pX (by omega) (by omega),pX (by omega) (by omega)];refine wR (by simpa using h.low) (by simpa using h3) fun v _ _=>?_;obtain⟨m,rfl⟩:∃ m:Nat,n=m:=⟨n.toNat,by omega⟩;obtain⟨r,hr,e⟩:=wx v (m:=m) (by omega) (by omega);exact aM e (ar ⟨by simp,by simp; omega,⟨by simp; omega,by simp; omega,h.len⟩⟩)
theorem CQ {l:List Int} {i:Int} (h:cp l i) {ws:List ByteArray} (h1:1≤ws.length) (h2:ws.length≤1000):Ok (ph ⟨l,i⟩ ws) fun r=>r.1∈ws∧cp r.2.L r.2.At:=by
 unfold ph;refine aQ (dN h (by omega) (by omega)) fun r hr=>wR hr.1 hr.2.1 fun v _ hv=>ar ⟨hv,hr.2.2⟩
end
section
open Go.RowKit
open Go.Lib hiding intOf
def ZZ (rs:List Bool):Nat→Nat
 | 0=>0
 | a+1=>if rs[a]? = some true then ZZ rs a else a+1
def GG (rs:List Bool):Nat→Nat→Nat
 | 0,b=>b
 | f+1,b=>if rs[b]? = some true then GG rs f (b+1) else b
theorem Cv (rs:List Bool) (a:Nat):ZZ rs (a+1)=if rs[a]? = some true then ZZ rs a else a+1:=rfl
theorem Ds (rs:List Bool) (f b:Nat):GG rs (f+1) b=if rs[b]? = some true then GG rs f (b+1) else b:=rfl
theorem BD (rs:List Bool):∀ a,ZZ rs a≤a
 | 0=>cX _
 | a+1=>by
  have:=BD rs a;unfold ZZ;split <;> omega
theorem HV (rs:List Bool):∀ f b,b≤GG rs f b∧GG rs f b≤b+f
 | 0,b=>⟨cX _,cX _⟩
 | f+1,b=>by
  have:=HV rs f (b+1);unfold GG;split <;> omega
def blk (rs:List Bool) (n:Nat):Nat×Nat:=if rs[n]? = some true then (ZZ rs n,GG rs (rs.length-(n+1)) (n+1)) else (n,n+1)
theorem Hn {rs:List Bool} {n:Nat} (h:n<rs.length):(blk rs n).1≤n∧n<(blk rs n).2∧(blk rs n).2≤rs.length:=by
 have h1:=BD rs n;have h2:=HV rs (rs.length-(n+1)) (n+1);unfold blk;split <;> simp only [] <;> omega
theorem xM {rs:List Bool} {n:Nat} (h:rs[n]? = some false):blk rs n=(n,n+1):=by simp [blk,h]
def bG (l:List aW):List Bool:=l.map (·.Ring)
theorem qx {l:List aW} {n:Nat} (h:n<l.length):(bG l)[n]? = some l[n].Ring:=by simp [bG,h]
theorem BL {l:List aW} {n:Nat} (h:n<l.length) (hl:l.length≤1000000):nS l n=some (((blk (bG l) n).1:Int),((blk (bG l) n).2:Int)):=by
 unfold nS;rw [show decide ((n:Int)<0)=false by simp,show decide (((l.length:Int):Int)≤(n:Int))=false by simp; omega];simp only [cond_false,ax];have hr:=qx h;cases hb:l[n].Ring with
 | false =>
  rw [hb] at hr;have h1:loop (fun s:Int=>fJ l n s) (n:Int)=some (n:Int):=qh (by
   unfold fJ; rw [bW h]; simp only [ax,hb,cond_false])
  have h2:loop (fun s:Int=>fH l n s) ((n:Int)+1)=some ((n:Int)+1):=qh (by
   unfold fH; rw [bW h]; simp only [ax,hb,cond_false])
  rw [h1];unfold lI lH;rw [ax,pX (by omega) (by omega),h2,xM hr];rfl
 | true =>
  rw [hb] at hr;have h1:loop (fun s:Int=>fJ l n s) (n:Int)=some ((ZZ (bG l) n:Nat):Int):=by
   refine za (I:=fun k s=>∃ a:Nat,a+k=n∧s=(a:Int)∧ZZ (bG l) a=ZZ (bG l) n) _ n ?_ ?_ ⟨n,rfl,rfl,rfl⟩
   ·rintro k _ hk ⟨a,ha,rfl,e⟩;unfold fJ;obtain⟨c,rfl⟩:∃ c,a=c+1:=⟨a-1,by omega⟩;have hc:c<l.length:=by omega
    rw [bW h,show decide ((0:Int)<((c+1:Nat):Int))=true by simp <;> omega,pX (by omega) (by omega),show (((c+1:Nat):Int)-1)=(c:Int) by omega,bW hc];simp only [cond_true,ax,hb];have hr2:=qx hc;rw [Cv,hr2] at e;cases hb2:l[c].Ring with
    | true=>rw [hb2,if_pos rfl] at e; exact .inl ⟨_,rfl,c,by omega,rfl,e⟩
    | false=>rw [hb2,if_neg (by simp)] at e; right; rw [← e]; rfl
   ·rintro _ ⟨a,ha,rfl,e⟩;obtain rfl:a=0:=by omega
    unfold fJ;rw [bW h,← e];simp only [ax,hb,cond_true];rfl
  have h2:loop (fun s:Int=>fH l n s) ((n+1:Nat):Int)=some ((GG (bG l) ((bG l).length-(n+1)) (n+1):Nat):Int):=by
   have hlen:(bG l).length=l.length:=by simp [bG]
   rw [hlen];refine za (I:=fun k s=>∃ a:Nat,a=n+1+k∧a≤l.length∧s=(a:Int)∧GG (bG l) (l.length-a) a=GG (bG l) (l.length-(n+1)) (n+1)) _ (l.length-(n+1)) ?_ ?_ ⟨n+1,rfl,h,rfl,rfl⟩
   ·rintro k _ hk ⟨a,ha,hal,rfl,e⟩;unfold fH;have hc:a<l.length:=by omega
    rw [bW h,show decide ((a:Int)<(l.length:Int))=true by simp; omega,bW hc,pX (by omega) (by omega)];simp only [cond_true,ax,hb];have hr2:=qx hc;rw [show l.length-a=(l.length-(a+1))+1 by omega] at e;rw [Ds,hr2] at e;cases hb2:l[a].Ring with
    | true=>rw [hb2,if_pos rfl] at e; exact .inl ⟨_,rfl,a+1,by omega,by omega,by simp,e⟩
    | false=>rw [hb2,if_neg (by simp)] at e; right; rw [← e]; rfl
   ·rintro _ ⟨a,ha,hal,rfl,e⟩;obtain rfl:a=l.length:=by omega
    unfold fH;rw [B2] at e;rw [bW h,← e];simp [GG,hb]
  rw [h1];simp only [ax];unfold lI lH;rw [pX (by omega) (by omega),show ((n:Int)+1)=((n+1:Nat):Int) by omega,h2];simp [blk,hr]
structure C4 (ring:Bool) (k:Nat) (b:Int) (a:dA):Prop where
 low:0≤a.N
 cell:a.Cell=true→a.N<4
 rule:a.Cell=false→a.N<b
 pick:a.Pick=true→ring=false∧0<k
 low2:0≤a.Else
 cell2:a.Cell=true→a.Else<4
 rule2:a.Cell=false→a.Else<b
 none:a.Pick=false→a.Else=0
structure Eq (b:Int) (r:aW):Prop where
 asks:r.Asks.length≤3
 each:∀ k a,r.Asks[k]? = some a→C4 r.Ring k b a
 ring:r.Ring=true→r.Final=5∧0≤r.C∧r.C≤16
 plain:r.Ring=false→1≤r.Final∧r.Final≤4∧0≤r.C∧r.C≤5
def C2 (rs:List Bool) (i:Nat):Nat:=if rs[i]? = some true then (blk rs i).2 else i
structure bX (l:List aW):Prop where
 low:2≤l.length
 high:l.length≤8
 each:∀ i r,l[i]? = some r→Eq (C2 (bG l) i) r
def El (ring:Bool) (b k:Int) (ks:List dA):Fl (Int×List Int×Int×List dA) (List Int×Int×List dA)→Prop
 | .go s=>s.1=k-1∧cp s.2.1 s.2.2.1∧∃ a,C4 ring ks.length b a∧s.2.2.2=ks++[a]
 | .out _=>False
section
variable {ring:Bool} {b k:Int} {ks:List dA} {cell:Bool} {most n:Int} {l:List Int} {i:Int}
theorem OA {pick:Bool} {e:Int} (ha:C4 ring ks.length b ⟨cell,pick,n,e⟩) (hd:cp l i) (hk:1≤k∧k≤3) (hl:ks.length≤3):Ok (kT k ks cell n l i pick e) (El ring b k ks):=by
 unfold kT pP;exact dM (dX (by simp; omega)) (ar ⟨pX (by omega) (by omega),hd,_,ha,rfl⟩)
theorem OB {g:Bool} (hg:g=true→ring=false∧0<ks.length) (hn:0≤n∧n<most) (hc:cell=true→most=4) (hr:cell=false→most=b) (hm:1≤most∧most≤8) (hd:cp l i) (hk:1≤k∧k≤3) (hl:ks.length≤3) :
  Ok (je k ks cell most n g l i) (El ring b k ks):=by
 unfold je;refine aF (fun e=>aQ (dN hd (by omega) (by omega)) fun r hr2=>OA ⟨hn.1,fun h=>?_,fun h=>?_,fun _=>hg e,hr2.1,fun h=>?_,fun h=>?_,fun h=>by cases h⟩ hr2.2.2 hk hl)
  (fun e=>OA ⟨hn.1,fun h=>?_,fun h=>?_,fun h=>(by cases h),by simp,fun h=>(by simp),fun h=>?_,fun h=>rfl⟩ hd hk hl)
 all_goals first
  | (have:=hc h; simp only []; omega)
  | (have:=hr h; simp only []; omega)
theorem OC (hn:0≤n∧n<most) (hc:cell=true→most=4) (hr:cell=false→most=b) (hm:1≤most∧most≤8) (hd:cp l i) (hk:1≤k∧k≤3) (hl:ks.length≤3) :
  Ok (kU ring k ks cell most l i n) (El ring b k ks):=by
 unfold kU;refine aF (fun e=>aF (fun e2=>aQ (dN hd (by omega) (by omega)) fun r hr2=>OB (fun _=>⟨by simpa using e,by simpa using e2⟩) hn hc hr hm hr2.2.2 hk hl) (fun e2=>?_)) (fun e=>?_)
 all_goals exact OB (fun h=>by cases h) hn hc hr hm hd hk hl
theorem OD (hc:cell=true→most=4) (hr:cell=false→most=b) (hm:1≤most∧most≤8) (hd:cp l i) (hk:1≤k∧k≤3) (hl:ks.length≤3) :
  Ok (kW ring k ks l i cell most) (El ring b k ks):=by
 unfold kW;refine aQ (dN hd (by omega) (by omega)) fun r h1=>?_;have h8:∀ {g:Bool} {l2:List Int} {i2:Int},cp l2 i2→Ok (kV ring k ks cell most r g l2 i2) (El ring b k ks):=fun {g l2 i2} h2=>by
  unfold kV;refine aF (fun _=>aQ (dN h2 (by omega) (by omega)) fun q h3=>?_) (fun _=>OC ⟨h1.1,h1.2.1⟩ hc hr hm h2 hk hl);have:=h3.1; have:=h3.2.1;rw [show IntKind.i64.wrap (most-1)=most-1 from pX (by omega) (by omega),pX (by omega) (by omega)];exact OC ⟨by omega,by omega⟩ hc hr hm h3.2.2 hk hl
 refine aF (fun _=>aQ (dN h1.2.2 (by omega) (by omega)) fun q h3=>h8 h3.2.2) (fun _=>h8 h1.2.2)
theorem OE (hb:0≤b∧b≤8) (hd:cp l i) (hk:1≤k∧k≤3) (hl:ks.length≤3):Ok (jH b ring k l i ks) (El ring b k ks):=by
 unfold jH;refine aF (fun _=>aQ (dN hd (by omega) (by omega)) fun r h1=>?_) (fun e=>by simp at e; omega);have h10:∀ {c:Bool},(c=false→1≤b)→Ok (jE b ring k ks r.2.L r.2.At c) (El ring b k ks):=fun {c} h=>by
  unfold jE;exact aF (fun e=>by subst e; exact OD (fun _=>rfl) (fun h=>by cases h) ⟨by omega,by omega⟩ h1.2.2 hk hl) (fun e=>by subst e; exact OD (fun h=>by cases h) (fun _=>rfl) ⟨h rfl,hb.2⟩ h1.2.2 hk hl)
 exact aF (fun _=>h10 fun h=>by cases h) (fun _=>h10 fun h=>by simp at h; omega)
end
def Lt (l:List aW) (n:Nat) (ring:Bool) (b:Int):Fl (List aW×Int×List Int×Int) (List aW×List Int×Int)→Prop
 | .go s=>(∃ r,Eq b r∧r.Ring=ring∧s.1=l.set n r)∧s.2.1=n+1∧cp s.2.2.1 s.2.2.2
 | .out _=>False
theorem Lk {l:List aW} {n:Nat} (h:n<l.length) (hl:l.length≤8) {b:Int} (hb:0≤b∧b≤8) {ring:Bool} {d:List Int} {i:Int} (hd:cp d i) {f c:Int}
  (h5:ring=true→f=5∧0≤c∧c≤16) (h6:ring=false→1≤f∧f≤4∧0≤c∧c≤5):Ok (jF l n b ring d i f c) (Lt l n ring b):=by
 unfold jF;refine aQ (dN hd (by omega) (by omega)) fun r h1=>?_;refine cc (fun k s=>s.1=r.1-k∧s.2.2.2.length=k∧cp s.2.1 s.2.2.1∧∀ j a,s.2.2.2[j]? = some a→C4 ring j b a) (fun q=>q.2.2.length≤3∧cp q.1 q.2.1∧∀ j a,q.2.2[j]? = some a→C4 ring j b a) r.1.toNat
  ⟨by simp,rfl,h1.2.2,fun j a e=>by simp at e⟩ (fun k s hk hI=>?_) (fun q hq=>?_)
 ·obtain⟨e1,e2,e3,e4⟩:=hI;have:=h1.1; have:=h1.2.1;by_cases hz:(0:Int)<s.1
  ·refine (OE hb e3 ⟨by omega,by omega⟩ (by omega)).mono fun y hy=>?_;cases y with
   | out q=>exact hy.elim
   | go s2 =>
    obtain⟨g1,g2,a,g3,g4⟩:=hy;refine⟨by omega,by omega,by rw [g4]; simp; omega,g2,fun j x hx=>?_⟩;rw [g4] at hx;by_cases hj:j<s.2.2.2.length
    ·rw [m6 hj] at hx; exact e4 j x hx
    ·rw [o5 (by omega)] at hx;obtain rfl:j=s.2.2.2.length:=by
      rcases kP s.2.2.2.length j with h | h
      ·rw [tG (by simp; omega)] at hx; cases hx
      ·omega
     simp at hx; subst hx; exact g3
  ·unfold jH;rw [show decide ((0:Int)<s.1)=false by simpa using hz];exact ar ⟨by simp only []; omega,e3,e4⟩
 ·unfold mJ pO;refine wR (by omega) (by omega) fun v _ _=>ar ⟨⟨⟨ring,q.2.2,f,c⟩,⟨hq.1,hq.2.2,h5,h6⟩,rfl,by simp⟩,pX (by omega) (by omega),hq.2.1⟩
theorem OF {l:List aW} {n:Nat} (h:n<l.length) (hl:l.length≤8) {d:List Int} {i:Int} (hd:cp d i) (l0:List aW) (h0:l0.length=l.length):Ok (jI l0 l n d i) (Lt l n l[n].Ring (C2 (bG l) n)):=by
 unfold jI;rw [show decide ((n:Int)<(l0.length:Int))=true by simp; omega,BL h (by omega)];simp only [cond_true,ax];rw [bW h];simp only [ax];have hb:=Hn (rs:=bG l) (n:=n) (by simpa [bG] using h);have hlen:(bG l).length=l.length:=by simp [bG]
 have h14:∀ {b:Int},0≤b∧b≤8→Ok (jG l n d i b) (Lt l n l[n].Ring b):=fun {b} hb=>by
  unfold jG;rw [bW h,ax];refine aQ (dN hd (by omega) (by omega)) fun r h1=>aQ (dN h1.2.2 (by omega) (by omega)) fun q h2=>?_;have:=h1.1; have:=h1.2.1; have:=h2.1; have:=h2.2.1;rw [pX (by omega) (by omega)];unfold ot;refine aF (fun e=>aQ (dN h2.2.2 (by omega) (by omega)) fun p h3=>wR h3.1 (by simpa using h3.2.1) fun v _ hv=>?_) (fun e=>?_)
  ·refine Lk h hl hb h3.2.2 (fun _=>⟨rfl,?_⟩) (fun e2=>by rw [e] at e2; cases e2);simp only [cz,gn,or_false] at hv;omega
  ·exact Lk h hl hb h2.2.2 (fun e2=>by rw [e] at e2; cases e2) (fun _=>⟨by omega,by omega,by omega,by omega⟩)
 have hr:=qx h;unfold C2;rw [hr];cases e:l[n].Ring with
 | true=>rw [e] at h14; simp only [dh,cond_false,if_true]; exact h14 ⟨by omega,by omega⟩
 | false=>rw [e] at h14 hr; rw [xM hr]; simp only [my,cond_true]; exact h14 ⟨by omega,by omega⟩
theorem GX {l:List aW} {n:Nat} {r:aW} (h:n<l.length) (e:r.Ring=l[n].Ring):bG (l.set n r)=bG l:=by
 unfold bG;rw [List.map_set,e];apply List.ext_getElem (by simp);intro j h1 h2;by_cases hj:n=j
 ·subst hj; simp
 ·simp [hj]
theorem IJ {d:List Int} {i:Int} (hd:cp d i):Ok (rT ⟨d,i⟩) fun y=>bX y.1∧cp y.2.L y.2.At:=by
 unfold rT;refine aQ (dN hd (by omega) (by omega)) fun r h1=>?_;have:=h1.1; have:=h1.2.1;rw [pX (by omega) (by omega)];refine cc (fun k s=>s.1.length=k∧s.2.1=2+r.1-k∧cp s.2.2.1 s.2.2.2) (fun q=>2≤q.1.length∧q.1.length≤8∧cp q.2.1 q.2.2) (2+r.1).toNat ⟨rfl,by simp,h1.2.2⟩ (fun k s hk hI=>?_) (fun q hq=>?_)
 ·obtain⟨e1,e2,e3⟩:=hI;unfold ou;refine aF (fun e=>aQ (dN e3 (by omega) (by omega)) fun q h2=>dM (dX (by simp; omega)) (ar ?_)) (fun e=>ar ?_)
  ·have e:(0:Int)<s.2.1:=by simpa using e
   exact⟨by omega,by simp [e1],by dsimp only; rw [pX (by omega) (by omega)]; omega,h2.2.2⟩
  ·have e:¬ (0:Int)<s.2.1:=by simpa using e
   exact⟨by dsimp only; omega,by dsimp only; omega,e3⟩
 ·obtain⟨q1,q2,q3⟩:=hq;unfold lC;refine cc (fun k s=>s.1.length=q.1.length∧s.2.1=k∧cp s.2.2.1 s.2.2.2∧bG s.1=bG q.1∧∀ j r,j<k→s.1[j]? = some r→Eq (C2 (bG q.1) j) r) (fun p=>bX p.1∧cp p.2.1 p.2.2) q.1.length ⟨rfl,rfl,q3,rfl,fun j r h=>by omega⟩ (fun k s hk hI=>?_) (fun p hp=>?_)
  ·obtain⟨e1,e2,e3,e4,e5⟩:=hI;by_cases hz:k<q.1.length
   ·have hz1:k<s.1.length:=by omega
    rw [e2];refine (OF hz1 (by omega) e3 q.1 e1.symm).mono fun y hy=>?_;cases y with
    | out q=>exact hy.elim
    | go s2 =>
     obtain⟨⟨x,g1,g2,g3⟩,g4,g5⟩:=hy;refine⟨hz,by rw [g3]; simpa using e1,by rw [g4]; simp,g5,by rw [g3,GX hz1 g2]; exact e4,fun j r hj hr=>?_⟩;rw [g3] at hr;by_cases hjk:k=j
     ·subst hjk;rw [B0 hz1] at hr;injection hr with hr; subst hr;rw [e4] at g1; exact g1
     ·rw [List.getElem?_set_ne hjk] at hr;exact e5 j r (by omega) hr
   ·unfold jI;rw [show decide ((s.2.1:Int)<(q.1.length:Int))=false by simp; omega];refine ar ⟨⟨by simp only []; omega,by simp only []; omega,fun j r hr=>?_⟩,e3⟩;rw [e4];exact e5 j r (by have:=(bN.1 hr).1; dsimp only at this; omega) hr
  ·unfold mI;exact ar hp
def EM (rs:List Bool) (i:Nat) (cell:Bool) (n:Int):Bool:=decide (0≤n)&&cond cell (decide (n≤15)) (decide (n<(C2 rs i:Int)))
theorem Al {l:List aW} {i:Nat} (h:i<l.length) (hl:l.length≤1000000) (x:dA) (n:Int):ry l (i:Int) x n=some (EM (bG l) i x.Cell n):=by
 unfold ry EM;cases x.Cell with
 | true =>
  rw [cond_true,cond_true];cases decide (0≤n) <;> rfl
 | false =>
  rw [cond_false,cond_false,BL h hl,ax];dsimp only;have hr:=qx h;rw [bW h,ax];unfold C2;rw [hr];cases hg:l[i].Ring with
  | true =>
   rw [if_pos rfl];unfold mc mb;cases decide (0≤n) <;> rfl
  | false =>
   rw [hg] at hr;rw [if_neg (by simp),xM hr];unfold mc mb;cases decide (0≤n) <;> rfl
def Lx (rs:List Bool) (i:Nat) (ring first:Bool) (a:dA):Bool:=EM rs i a.Cell a.N&&cond a.Pick (!ring && !first&&EM rs i a.Cell a.Else) ((a.Else:Int)==0)
theorem Aa {ρ:Type} {B:Int→Option (Fl Int ρ)} (n:Nat) (p:Nat→Bool) {y r:ρ} (hgo:∀ k,k<n→p k=false→B (k:Int)=some (.go ((k+1:Nat):Int))) (hy:∀ k,k<n→p k=true→B (k:Int)=some (.out y)) (hn:B (n:Int)=some (.out r)):loop B 0=some (if (List.range n).any p then y else r):=by
 have hx:∀ (k x:Nat),(List.range n)[k]? = some x→x=k∧k<n:=fun k x h=>by
  have hk:=bc h;simp only [sg] at hk;rw [List.getElem?_range hk] at h;exact⟨(fq h).symm,hk⟩
 refine kH (xs:=List.range n) p (fun k=>(k:Int)) rfl (fun k x h hp=>?_) (fun k x h hp=>?_) (by simpa using hn)
 ·obtain⟨rfl,hk⟩:=hx k x h;exact hgo _ hk hp
 ·obtain⟨rfl,hk⟩:=hx k x h;exact hy _ hk hp
def Gn (rs:List Bool) (i:Nat) (r:aW) (k:Nat):Bool:=match r.Asks[k]? with
 | some a=>!Lx rs i r.Ring (((k:Nat):Int)==0) a
 | none=>false
def Bq (rs:List Bool) (i:Nat) (r:aW):Bool:=!((List.range r.Asks.length).any (Gn rs i r))
def FT (rs:List Bool) (i:Nat) (r:aW) (low high most:Int):Bool:=!decide ((6:Int)<(r.Asks.length:Int)) && !decide (r.Final<low) && !decide (high<r.Final) && !decide (r.C<0) && !decide (most<r.C)&&Bq rs i r
def FR (rs:List Bool) (i:Nat) (r:aW):Bool:=cond r.Ring (FT rs i r 5 5 65535) (FT rs i r 1 4 999)
def O2 (l:List aW):Prop:=l.length≤1000∧∀ r∈l,r.Asks.length≤1000
theorem IA {l:List aW} {i:Nat} (h:i<l.length) (hl:O2 l):loop (fun s:Int=>fK l (i:Int) l[i] s) 0=some (cond (Bq (bG l) i l[i]) (Fl.go ()) (Fl.out false)):=by
 have hA:=hl.2 _ (m7 h);have hB:=hl.1;have hstep:∀ k,(hk:k<l[i].Asks.length)→fK l (i:Int) l[i] (k:Int)=some (cond (Gn (bG l) i l[i] k) (.out (.out false)) (.go ((k+1:Nat):Int))):=fun k hk=>by
  unfold Gn;rw [bS hk];dsimp only;unfold fK Lx eK;rw [dlt hk,cond_true,bW hk,ax,Al h (by omega),Al h (by omega),cJ (by omega)];simp only [ax,bne];generalize (((k:Nat):Int)==0)=f;generalize ((l[i].Asks[k].Else:Int)==0)=z;generalize EM (bG l) i l[i].Asks[k].Cell l[i].Asks[k].N=m1;generalize EM (bG l) i l[i].Asks[k].Cell l[i].Asks[k].Else=m2;generalize l[i].Asks[k].Pick=pk;generalize l[i].Ring=rg;cases pk <;> cases rg <;> cases f <;> cases m1 <;> cases m2 <;> cases z <;> rfl
 have e:=Aa (B:=fun s:Int=>fK l (i:Int) l[i] s) l[i].Asks.length (Gn (bG l) i l[i]) (y:=Fl.out false) (r:=Fl.go ()) (fun k hk hp=>by rw [hstep k hk,hp]; rfl) (fun k hk hp=>by rw [hstep k hk,hp]; rfl) (by unfold fK; rw [bA]; rfl);rw [e];unfold Bq;cases (List.range l[i].Asks.length).any (Gn (bG l) i l[i]) <;> rfl
def Gp (l:List aW) (k:Nat):Bool:=match l[k]? with
 | some r=>!FR (bG l) k r
 | none=>false
def CP (l:List aW):Bool:=decide ((l.length:Int)≤24) && !((List.range l.length).any (Gp l))
theorem GU {l:List aW} (hl:O2 l):ql l=some (CP l):=by
 have hB:=hl.1;unfold ql CP;have hstep:∀ k,(hk:k<l.length)→hU l (k:Int)=some (cond (Gp l k) (.out (.out false)) (.go ((k+1:Nat):Int))):=fun k hk=>by
  have hj:hO (k:Int) l[k]=some (cond ((cond l[k].Ring (!decide (l[k].Final<5) && !decide (5<l[k].Final) && !decide (l[k].C<0) && !decide (65535<l[k].C)) (!decide (l[k].Final<1) && !decide (4<l[k].Final) && !decide (l[k].C<0) && !decide (999<l[k].C)))) (.go ((k+1:Nat):Int)) (.out (.out false))):=by
   unfold hO dF oA;rw [cJ (by omega)];cases hrg:l[k].Ring
   ·cases decide (l[k].Final<1) <;> cases decide (4<l[k].Final) <;> cases decide (l[k].C<0) <;> cases decide (999<l[k].C) <;> rfl
   ·by_cases h5:l[k].Final=5
    ·rw [show ((l[k].Final:Int) != 5)=false by simp [h5],decide_eq_false (show ¬ l[k].Final<5 by omega),decide_eq_false (show ¬ 5<l[k].Final by omega)];cases decide (l[k].C<0) <;> cases decide (65535<l[k].C) <;> rfl
    ·rw [show ((l[k].Final:Int) != 5)=true by simp [h5]];rcases (show l[k].Final<5∨5<l[k].Final by omega) with h | h
     ·rw [decide_eq_true h]; rfl
     ·rw [decide_eq_true h]; simp
  unfold Gp;rw [bS hk];dsimp only;unfold hU FR FT;rw [dlt hk,cond_true,bW hk,ax,IA hk hl,ax];have hel:∀ z:Bool,(cond z (Fl.go ()) (Fl.out false):Fl Unit Bool).el (fun s=>hO (k:Int) l[k]) (fun y=>some (.out (.out y)))=cond z (hO (k:Int) l[k]) (some (.out (.out false))):=fun z=>by cases z <;> rfl
  rw [hel,hj];generalize Bq (bG l) k l[k]=z;generalize decide ((6:Int)<(l[k].Asks.length:Int))=d6;cases l[k].Ring
  ·simp only [cond_false];generalize decide (l[k].Final<1)=d1;generalize decide (4<l[k].Final)=d2;generalize decide (l[k].C<0)=d3;generalize decide (999<l[k].C)=d4;cases z <;> cases d6 <;> cases d1 <;> cases d2 <;> cases d3 <;> cases d4 <;> rfl
  ·simp only [cond_true];generalize decide (l[k].Final<5)=d1;generalize decide (5<l[k].Final)=d2;generalize decide (l[k].C<0)=d3;generalize decide (65535<l[k].C)=d4;cases z <;> cases d6 <;> cases d1 <;> cases d2 <;> cases d3 <;> cases d4 <;> rfl
 rw [Aa (B:=fun s:Int=>hU l s) l.length (Gp l) (y:=Fl.out false) (r:=Fl.go ()) (fun k hk hp=>by rw [hstep k hk,hp]; rfl) (fun k hk hp=>by rw [hstep k hk,hp]; rfl) (by unfold hU; rw [bA]; rfl)];unfold oz;cases (List.range l.length).any (Gp l) <;> simp [Fl.el]
theorem EL {l:List aW} (h:bX l):CP l=true:=by
 unfold CP;have h8:=h.high;rw [decide_eq_true (by omega),vf,tF,wO];intro i hi;have hi:=vg.1 hi;unfold Gp;have hg:=bS hi;rw [hg];dsimp only;have hR:=h.each i l[i] hg;have ha:Bq (bG l) i l[i]=true:=by
  unfold Bq;rw [tF,wO];intro k hk;have hk:=vg.1 hk;unfold Gn;have hka:=bS hk;rw [hka];dsimp only;have hA:=hR.each k _ hka;generalize l[i].Asks[k]=a at hA;unfold Lx EM;have hn:=hA.low;have he:=hA.low2;rw [decide_eq_true hn,decide_eq_true he,vf,vf];have c1:cond a.Cell (decide (a.N≤15)) (decide (a.N<(C2 (bG l) i:Int)))=true:=by
   cases hc:a.Cell
   ·exact decide_eq_true (hA.rule hc)
   ·have:=hA.cell hc;exact decide_eq_true (by omega)
  have c2:cond a.Cell (decide (a.Else≤15)) (decide (a.Else<(C2 (bG l) i:Int)))=true:=by
   cases hc:a.Cell
   ·exact decide_eq_true (hA.rule2 hc)
   ·have:=hA.cell2 hc;exact decide_eq_true (by omega)
  rw [c1,c2,vf];cases hp:a.Pick
  ·rw [hA.none hp]; simp
  ·obtain⟨p1,p2⟩:=hA.pick hp;rw [p1,show (((k:Nat):Int)==0)=false by simp; omega]; simp
 have hb:FR (bG l) i l[i]=true:=by
  have hl:=hR.asks;unfold FR FT;rw [ha,decide_eq_false (show ¬ (6:Int)<(l[i].Asks.length:Int) by omega)];cases hr:l[i].Ring
  ·obtain⟨q1,q2,q3,q4⟩:=hR.plain hr;rw [cond_false,decide_eq_false (show ¬ l[i].Final<1 by omega),decide_eq_false (show ¬ 4<l[i].Final by omega),decide_eq_false (show ¬ l[i].C<0 by omega),decide_eq_false (show ¬ 999<l[i].C by omega)]; rfl
  ·obtain⟨q1,q2,q3⟩:=hR.ring hr;rw [cond_true,decide_eq_false (show ¬ l[i].Final<5 by omega),decide_eq_false (show ¬ 5<l[i].Final by omega),decide_eq_false (show ¬ l[i].C<0 by omega),decide_eq_false (show ¬ 65535<l[i].C by omega)]; rfl
 rw [hb]; decide
theorem bX.bnd {l:List aW} (h:bX l):O2 l:=⟨by have:=h.high; omega,fun r hr=>by
 obtain⟨i,hi⟩:=kg.1 hr;have:=(h.each i r hi).asks; omega⟩
theorem MQ (n:Int) {m:Int} (hm:0<m) (hm2:m≤1000000000):Ok (kI n m) fun r=>0≤r∧r<m:=by
 obtain⟨k,rfl⟩:∃ k:Nat,m=k:=⟨m.toNat,by omega⟩;obtain⟨r,hr,e⟩:=wx n (m:=k) (by omega) (by omega);exact⟨_,e,by omega,by omega⟩
end
section
set_option maxRecDepth 100000
set_option maxHeartbeats 4000000
open Go.RowKit
noncomputable section
def mr:Option Bool:=some (true)
def cw (e:LO) (c:Int) (b:bB) (d:Bool):Option (Fl (LO×Int) (Fl (Unit) Bool)):=cond d (some (.out (.out false))) (some (.go ((eH aL b.Key true e),IntKind.i64.wrap (c+1))))
def gl (e:aj) (d:LO) (c:Int) (b:bB) (g:(aw×Bool)) (f:Bool):Option (Fl (LO×Int) (Fl (Unit) Bool)):=cond b.Running (cond (b.At != 0) (cw d c b true) (cw d c b false)) (cond (!(g.2)) (cond (b.At != 0) (cw d c b true) (cond (decide ((0:Int)<(b.Reads.length:Int))) (cw d c b true) (cond f ((mR e.Records e.Revision b.Key).bind fun h=>(iV e.Records h).bind fun i=>cw d c b (decide ((i.length:Int)<b.At))) (cw d c b false)))) (cond (decide ((0:Int)<(b.Reads.length:Int))) (cw d c b true) (cond f ((mR e.Records e.Revision b.Key).bind fun j=>(iV e.Records j).bind fun k=>cw d c b (decide ((k.length:Int)<b.At))) (cw d c b false))))
def mw (g:LU) (f:aj) (h:LF) (e:LO) (d:Int):Option (Fl (LO×Int) (Fl (Unit) Bool)):=cond (decide (d<(h.length:Int))) ((bu h d).bind fun b=>(some ((cK aL b.Key e).getD false)).bind fun i=>cond i (some (.out (.out false))) ((cr b.Key).bind fun j=>cond j (some (.out (.out false))) ((nV g b.Key).bind fun k=>cond (!(k)) (some (.out (.out false))) (cond ((b.Reads.length:Int) != (b.Answers.length:Int)) (some (.out (.out false))) (cond (decide (b.At<0)) (some (.out (.out false))) ((c8 f.Records b.Key).bind fun c=>cond c.2 (cond (!(c.1.Dirty)) (gl f e d b c (decide (c.1.Verified<f.Revision))) (gl f e d b c false)) (gl f e d b c false))))))) (some (.out (.go ())))
def jQ (b:LU) (c:aj) (d:LF):Option Bool:=(loop (fun s:LO×Int=>mw b c d s.1 s.2) (([]:LO),0)).bind fun r=>Fl.el r (fun s=>mr) (fun y=>some (y))
theorem wG (T:Nat→Prop) (W0:World) (hT:TW T W0) (hLv:di T W0) (e:LU) (b:aj) (h:LF) (m:Value) (n:Value) (o:Value) (p:Value) (bt:aE aC T W0 m e) (c0:aE ae T W0 n b.Inputs) (c1:aE aa T W0 o b.Records) (c2:aE az T W0 p h) (y:Bool) (hM:jQ e b h=some y):bj aP No 123 [m,.agg (bf b n o).toArray,p] W0 (fun v w'=>v = .bool y):=by
 refine en Tryz.func123 Tryz.ntmps123 hT fun a hS=>?_;replace hS:=((((hS.fact bC (di.dn hLv)).fS (aE.dn bt)).fS (aE.dn c0)).fS (aE.dn c1)).fS (aE.dn c2);unfold jQ at hM;refine ai hS fun a hS=>?_;refine kb hS fun j ck a w hk hS=>?_;refine ai hS fun a hS=>?_;refine wl rfl (qY ac true aY.bool false hS rfl fun k cl a w hk hS=>?_);refine ai hS fun a hS=>?_;refine aK (J:=fun a w=>St W0 No T 121 [] [] [bC] a w∧mr=some y) ?_ ?_
 ·skip;refine ai hS fun a hS=>?_;obtain⟨r1,bs,hMo1⟩:=bd hM;refine bF _ (fun s a w=>∃ (g:LO) (f:Int) (q:AM) (A:Nat),(g,f)=s∧St W0 No T 121 [(0,m),(4,pt j 0),(7,.map (some k)),(14,p),(15,al (h.length:Int)),(16,al f)] [om k q A,.box j (bf b n o) 31] [aR aC m e,vU q g,aR az p h,aR ae n b.Inputs,aR aa o b.Records,bC] a w) bs ⟨_,_,_,_,rfl,hS.mt [0,1] [4,0,1,3,2,5]⟩ ?_;rintro s a w f1 ⟨g,f,q,A,rfl,hS⟩ hM hf1;have hM:mw e b h g f=some f1:=hM;unfold mw at hM;refine ai hS fun a hS=>?_;refine aD ?_;rcases cd hM with⟨ab,hM⟩|⟨ab,hM⟩
  ·refine ai hS fun a hS=>?_;refine aD ?_;refine ai hS fun a hS=>?_;obtain⟨d,S,hM⟩:=bd hM;refine wl rfl (bm (R:=az) hS Av u7 rfl rfl 2 rfl S rfl fun c3 d0 c5 af a hS=>?_);obtain⟨P,Q,rfl,a2,a3⟩:=af;replace hS:=(hS.fS a2).fS a3;refine ai hS fun a hS=>?_;refine ka hS tI fun z co a w hk hS=>?_;refine go hS fun a w hS=>?_;refine aD ?_;refine iY ?_;refine ai hS fun a hS=>?_;obtain⟨bb,Z,hM⟩:=bd hM;obtain⟨c9,ag,ak⟩:=fh hS vT cT 1 rfl 4 rfl (c:=(aV d.Key)) (key:=d.Key) rfl Nj (zc:=[.bool false]) rfl rfl Z;obtain rfl:=ag;refine wl rfl (ky (v:=.bool bb) hS (ak rfl rfl id) rfl rfl fun a hS=>?_);refine ai hS fun a hS=>?_;rcases cd hM with⟨C,hM⟩|⟨C,hM⟩
   ·exact fz
   refine ai hS fun a hS=>?_;obtain⟨d3,a0,hM⟩:=bd hM;refine wg hS rfl rfl rfl C (bg hS yS rfl rfl (dJ _ _ hS.dlt d.Key _ a0) fun _ w hR a hk hA=>?_);obtain rfl:=hR;have hS:=bY hA;refine ai hS fun a hS=>?_;rcases cd hM with⟨D,hM⟩|⟨D,hM⟩
   ·exact fz
   refine ai hS fun a hS=>?_;obtain⟨d4,a1,hM⟩:=bd hM;refine wg hS rfl rfl rfl D (bg hS KX rfl rfl (vX _ _ hS.dlt (hS.get 8 rfl) e d.Key _ (hS.get 3 rfl) _ a1) fun _ w hR a hk hA=>?_);obtain rfl:=hR;have hS:=bY hA;refine ai hS fun a hS=>?_;rcases cd hM with⟨ao,hM⟩|⟨ao,hM⟩
   ·exact fz
   refine ai hS fun a hS=>?_;rcases cd hM with⟨av,hM⟩|⟨av,hM⟩
   ·exact fz
   refine ai hS fun a hS=>?_;rcases cd hM with⟨b0,hM⟩|⟨b0,hM⟩
   ·exact fz
   refine ai hS fun a hS=>?_;refine wl rfl (x5 hS vT cT 1 rfl 4 rfl (c:=(aV d.Key)) (cv:=[.bool true]) (key:=d.Key) (val:=true) rfl rfl rfl rfl rfl fun l B w hk hS=>?_);refine ai hS fun a hS=>?_;obtain⟨O,U,hM⟩:=bd hM;refine kc hS mA (cj _ _ hS.dlt b.Records d.Key _ (hS.get 8 rfl) _ U) fun _ w hR a hk hA=>?_;obtain⟨d6,ca,he,I⟩:=hR;obtain rfl:=he.symm;have hS:=qD hA I;refine ai hS fun a hS=>?_;refine ka hS gV fun c4 cs a w hk hS=>?_;refine go hS fun a w hS=>?_;refine aK (J:=fun a w=>∃ (x:Bool),St W0 No T 121 [(0,m),(4,pt j 0),(7,.map (some k)),(9,pt z 0),(11,.bool O.2),(12,.bool x),(14,p),(15,al (h.length:Int)),(16,al f)] [om k l B,.box j (bf b n o) 31,.box z (mp d P Q) 131] [aR aC m e,vU l (eH aL d.Key true g),aR az p h,aR ae n b.Inputs,aR aa o b.Records,aR ac P d.Reads,aR aY.str Q d.Answers,bC] a w∧gl b g f d O x=some f1) ?_ ?_
   ·exact fz
   rintro a w ⟨x,hS,hM⟩;unfold gl at hM;refine aK (J:=fun a w=>∃ (r:Bool),St W0 No T 121 [(0,m),(4,pt j 0),(7,.map (some k)),(14,p),(15,al (h.length:Int)),(16,al f),(119,.bool r)] [om k l B,.box j (bf b n o) 31] [aR aC m e,vU l (eH aL d.Key true g),aR az p h,aR ae n b.Inputs,aR aa o b.Records,bC] a w∧cw g f d r=some f1) ?_ ?_
   ·skip;refine dr [] hS fun w hQ hS=>?_;refine gE [0,1,2] hS fun a hS=>?_;rcases cd hM with⟨b1,hM⟩|⟨b1,hM⟩
    ·refine gE [3,4,5,6,7,8,9,10,11] hS fun a hS=>?_;rcases cd hM with⟨b2,hM⟩|⟨b2,hM⟩
     ·refine gE [12,13,14,15,16,17,18,19,20,21,22,23,24,25,26,27,28,29,30,31,32,33,34,35,36,37,38,39,40,41,42,43,44,45] hS fun a hS=>?_;refine eD ?_;exact⟨_,hS.mt [0,1] [0,1,2,3,4,7],hM⟩
     refine gE [12,13,14,15,16,17,18,19,20,21,22,23,24,25,26,27,28,29,30,31,32,33,34,35,36,37,38,39,40,41,42,43,44,45] hS fun a hS=>?_;refine eD ?_;exact⟨_,hS.mt [0,1] [0,1,2,3,4,7],hM⟩
    refine gE [3,4,5,6] hS fun a hS=>?_;rcases cd hM with⟨b3,hM⟩|⟨b3,hM⟩
    ·refine gE [7,8,9,10,11] hS fun a hS=>?_;rcases cd hM with⟨b4,hM⟩|⟨b4,hM⟩
     ·refine gE [12,13,14,15,16,17,18,19,20,21,22,23,24,25,26,27,28,29,30,31,32,33,34,35,36,37,38,39,40,41,42,43,44,45] hS fun a hS=>?_;refine eD ?_;exact⟨_,hS.mt [0,1] [0,1,2,3,4,7],hM⟩
     refine gE [12,13,14,15,16,17,18,19,20,21,22] hS fun a hS=>?_;rcases cd hM with⟨b5,hM⟩|⟨b5,hM⟩
     ·refine gE [23,24,25,26,27,28,29,30,31,32,33,34,35,36,37,38,39,40,41,42,43,44,45] hS fun a hS=>?_;refine eD ?_;exact⟨_,hS.mt [0,1] [0,1,2,3,4,7],hM⟩
     refine gE [23,24,25,26,27,28,29] hS fun a hS=>?_;rcases cd hM with⟨t,hM⟩|⟨t,hM⟩
     ·refine gE [30,31,32,33,34,35,36,37,38,39] hS fun a hS=>?_;obtain⟨b8,V,hM⟩:=bd hM;refine cI (i:=40) rfl (by kernel_rfl) hS rfl rfl rfl t (bg hS Ft rfl rfl (tX _ _ hS.dlt (hS.get 7 rfl) b.Records b.Revision d.Key _ (hS.get 4 rfl) _ V) fun _ w hR a hk hA=>⟨gf (hk),?_⟩);obtain⟨da,cb,he,K⟩:=hR;obtain rfl:=he.symm;have hS:=qD hA K;have hL:=hS;replace hL:=hL.freeze (R:=ac) 0 rfl 0 rfl;obtain⟨d1,W,hM⟩:=bd hM;refine cI (i:=41) rfl (by kernel_rfl) hS rfl rfl rfl t (bg hS Fs rfl rfl (oD _ _ hL.dlt b.Records b8 _ _ (hL.get 6 rfl) (hL.get 0 rfl) _ W) fun _ w hR a hk hA=>⟨gf (hk),?_⟩);obtain⟨bi,a4,he,⟨G,E,L⟩⟩:=hR;obtain rfl:=he.symm;have hS:=hA [ne bi a4] (ei ⟨G,by decide⟩ E) (sP _);replace hS:=hS.fR L;refine gE [42,43,44,45] hS fun a hS=>?_;refine eD ?_;exact⟨_,hS.mt [2,3] [2,3,4,5,6,9],hM⟩
     refine gE [30,31,32,33,34,35,36,37,38,39,40,41,42,43,44,45] hS fun a hS=>?_;refine eD ?_;exact⟨_,hS.mt [0,1] [0,1,2,3,4,7],hM⟩
    refine gE [7,8,9,10,11,12,13,14,15,16,17,18,19,20,21,22] hS fun a hS=>?_;rcases cd hM with⟨b6,hM⟩|⟨b6,hM⟩
    ·refine gE [23,24,25,26,27,28,29,30,31,32,33,34,35,36,37,38,39,40,41,42,43,44,45] hS fun a hS=>?_;refine eD ?_;exact⟨_,hS.mt [0,1] [0,1,2,3,4,7],hM⟩
    refine gE [23,24,25,26,27,28,29] hS fun a hS=>?_;rcases cd hM with⟨u,hM⟩|⟨u,hM⟩
    ·refine gE [30,31,32,33,34,35,36,37,38,39] hS fun a hS=>?_;obtain⟨b9,X,hM⟩:=bd hM;refine cI (i:=40) rfl (by kernel_rfl) hS rfl rfl rfl u (bg hS Ft rfl rfl (tX _ _ hS.dlt (hS.get 7 rfl) b.Records b.Revision d.Key _ (hS.get 4 rfl) _ X) fun _ w hR a hk hA=>⟨gf (hk),?_⟩);obtain⟨dc,ch,he,M⟩:=hR;obtain rfl:=he.symm;have hS:=qD hA M;have hL:=hS;replace hL:=hL.freeze (R:=ac) 0 rfl 0 rfl;obtain⟨d2,Y,hM⟩:=bd hM;refine cI (i:=41) rfl (by kernel_rfl) hS rfl rfl rfl u (bg hS Fs rfl rfl (oD _ _ hL.dlt b.Records b9 _ _ (hL.get 6 rfl) (hL.get 0 rfl) _ Y) fun _ w hR a hk hA=>⟨gf (hk),?_⟩);obtain⟨bl,a5,he,⟨H,F,N⟩⟩:=hR;obtain rfl:=he.symm;have hS:=hA [ne bl a5] (ei ⟨H,by decide⟩ F) (sP _);replace hS:=hS.fR N;refine gE [42,43,44,45] hS fun a hS=>?_;refine eD ?_;exact⟨_,hS.mt [2,3] [2,3,4,5,6,9],hM⟩
    refine gE [30,31,32,33,34,35,36,37,38,39,40,41,42,43,44,45] hS fun a hS=>?_;refine eD ?_;exact⟨_,hS.mt [0,1] [0,1,2,3,4,7],hM⟩
   rintro a w ⟨r,hS,hM⟩;unfold cw at hM;exact fz
  exact fz
 rintro a w ⟨hS,hM⟩;unfold mr at hM;exact fz
def oH (b:Bool):Option Bool:=some (b)
def qs (b:dB):Option Bool:=(lQ b.Rules b.Base b.Goals).bind fun c=>cond (c==0) ((jQ b.Rules b.Base b.Stack).bind fun d=>oH d) (oH false)
theorem Be (T:Nat→Prop) (W0:World) (hT:TW T W0) (hLv:di T W0) (b:dB) (m:Value) (n:Value) (o:Value) (p:Value) (q:Value) (r:Value) (g:aE aC T W0 m b.Rules) (h:aE ae T W0 n b.Base.Inputs) (i:aE aa T W0 o b.Base.Records) (j:aE ac T W0 p b.Goals) (k:aE az T W0 q b.Stack) (l:aE ac T W0 r b.Ran) (y:Bool) (hM:qs b=some y):bj aP No 87 [.agg (vO b m n o p q r).toArray] W0 (fun v w'=>v = .bool y):=by
 refine en Tryz.func87 Tryz.ntmps87 hT fun a hS=>?_;replace hS:=((((((hS.fact bC (di.dn hLv)).fS (aE.dn g)).fS (aE.dn h)).fS (aE.dn i)).fS (aE.dn j)).fS (aE.dn k)).fS (aE.dn l);unfold qs at hM;refine ai hS fun a hS=>?_;refine kb hS fun s t a w hk hS=>?_;refine ai hS fun a hS=>?_;refine aK (J:=fun a w=>∃ (c:Bool),St W0 No T 20 [(2,.bool c)] [] [bC] a w∧oH c=some y) ?_ ?_
 ·skip;refine ai hS fun a hS=>?_;obtain⟨u,e,hM⟩:=bd hM;refine kc hS LS (sX _ _ hS.dlt (hS.get 6 rfl) b.Rules b.Base b.Goals _ _ _ _ (hS.get 5 rfl) (hS.get 4 rfl) (hS.get 3 rfl) (hS.get 2 rfl) _ e) fun _ w hR a hk hA=>?_;obtain rfl:=hR;have hS:=bY hA;refine ai hS fun a hS=>?_;rcases cd hM with⟨d,hM⟩|⟨d,hM⟩
  ·refine ai hS fun a hS=>?_;obtain⟨x,f,hM⟩:=bd hM;refine wg hS rfl rfl rfl d (bg hS NE rfl rfl (wG _ _ hS.dlt (hS.get 6 rfl) b.Rules b.Base b.Stack _ _ _ _ (hS.get 5 rfl) (hS.get 4 rfl) (hS.get 3 rfl) (hS.get 1 rfl) _ f) fun _ w hR a hk hA=>?_);obtain rfl:=hR;have hS:=bY hA;exact fz
  exact fz
 rintro a w ⟨c,hS,hM⟩;unfold oH at hM;exact fz
def vA (b:LU) (c:aj):Option ap:=some ((ap.mk b c ([]:LB) ([]:LL)))
theorem uT (T:Nat→Prop) (W0:World) (hT:TW T W0) (k:LU) (j:aj) (q:Value) (r:Value) (s:Value) (hD:ze T W0 []) (u:aE aC (dT T []) W0 q k) (x:aE ae (dT T []) W0 r j.Inputs) (z:aE aa (dT T []) W0 s j.Records) (y:ap) (hM:vA k j=some y):bj aP (MD []) 88 [q,.agg (bf j r s).toArray] W0 (fun v w'=>∃ (d:Nat) (n:Value) (o:Value) (p:Value) (h:Nat) (i:Array MapEntry) (f:Nat) (b:Nat) (e:Array MapEntry) (g:Nat),v=pt d 0∧aE aC (dT T [xS d n y.Base.Revision o p h b,om h i f,om b e g]) w' n y.Rules∧aE ae (dT T [xS d n y.Base.Revision o p h b,om h i f,om b e g]) w' o y.Base.Inputs∧aE aa (dT T [xS d n y.Base.Revision o p h b,om h i f,om b e g]) w' p y.Base.Records∧bV ac true aY.str false (dT T [xS d n y.Base.Revision o p h b,om h i f,om b e g]) w' i y.Memo∧bV ac true (aY.slice ac) false (dT T [xS d n y.Base.Revision o p h b,om h i f,om b e g]) w' e y.Seen∧qG W0 w' [] [xS d n y.Base.Revision o p h b,om h i f,om b e g]):=by
 refine lx (c:=_) Tryz.func88 rfl T 11 Tryz.ntmps88 hT rfl hD fun a hS=>?_;replace hS:=((hS.fS u).fS x).fS z;unfold vA at hM;refine ai hS fun a hS=>?_;refine kb hS fun A B a w hk hS=>?_;refine ai hS fun a hS=>?_;refine wl rfl (qY ac true aY.str false hS rfl fun l C a w hk hS=>?_);refine wl rfl (qY ac true (aY.slice ac) false hS rfl fun m D a w hk hS=>?_);refine qy hS (bq (ps:=[(0,.tmp 5),(1,.tmp 6),(2,.tmp 7),(3,.tmp 8)]) hS Ow OX rfl (us:=[[q],(bf j r s),[.map (some l)],[.map (some m)]]) ⟨(ft (aE.one ((hS.get 4 rfl):aE aC _ _ _ _))),⟨rfl,⟨rfl,⟨rfl,trivial⟩⟩⟩⟩ (ws:=[q,al j.Revision,r,s,.map (some l),.map (some m)]) rfl) fun a hS=>?_;refine kb hS fun t E a w hk hS=>?_;refine ai hS fun a hS=>?_;cases hM
 refine aI hS rfl (aq hS rfl aH) ?_;have hZ:=hS.sl [0,2,1] [4,3,2,1,0];exact⟨t,q,r,s,l,#[],0,m,#[],0,rfl,(hZ.get 0 rfl),(hZ.get 1 rfl),(hZ.get 2 rfl),(hZ.get 3 rfl),(hZ.get 4 rfl),hZ.dnew⟩
def u0:Option Bool:=some (false)
def sF (e:LF) (d:ah) (b:Int):Option (Fl (Int) (Fl (Unit) Bool)):=cond (decide (b<(e.length:Int))) ((bu e b).bind fun c=>cond (c.Key.Kind==d.Kind&&c.Key.Text.toList==d.Text.toList) (some (.out (.out true))) (some (.go (IntKind.i64.wrap (b+1))))) (some (.out (.go ())))
def r7 (c:LF) (b:ah):Option Bool:=(loop (fun s:Int=>sF c b s) 0).bind fun r=>Fl.el r (fun s=>u0) (fun y=>some (y))
theorem wF (T:Nat→Prop) (W0:World) (hT:TW T W0) (d:LF) (b:ah) (j:Value) (n:aE az T W0 j d) (y:Bool) (hM:r7 d b=some y):bj aP No 151 [j,.agg (aV b).toArray] W0 (fun v w'=>v = .bool y):=by
 refine en Tryz.func151 Tryz.ntmps151 hT fun a hS=>?_;replace hS:=hS.fS (aE.dn n);unfold r7 at hM;refine ai hS fun a hS=>?_;refine kb hS fun e t a w hk hS=>?_;refine ai hS fun a hS=>?_;refine aK (J:=fun a w=>St W0 No T 18 [] [] [] a w∧u0=some y) ?_ ?_
 ·skip;refine ai hS fun a hS=>?_;obtain⟨B,m,hMo1⟩:=bd hM;refine bF _ (fun s a w=>∃ (c:Int),c=s∧St W0 No T 18 [(3,pt e 0),(7,j),(8,al (d.length:Int)),(9,al c)] [.box e (aV b) 44] [aR az j d] a w) m ⟨_,rfl,hS.mt [0] [0]⟩ ?_;rintro s a w r ⟨c,rfl,hS⟩ hM hf1;have hM:sF d b c=some r:=hM;unfold sF at hM;refine ai hS fun a hS=>?_;refine aD ?_;rcases cd hM with⟨k,hM⟩|⟨k,hM⟩
  ·refine ai hS fun a hS=>?_;refine aD ?_;refine ai hS fun a hS=>?_;obtain⟨f,g,hM⟩:=bd hM;refine wl rfl (bm (R:=az) hS Av u7 rfl rfl 0 rfl g rfl fun o x q l a hS=>?_);obtain⟨z,A,rfl,h,i⟩:=l;replace hS:=(hS.fS h).fS i;refine ai hS fun a hS=>?_;refine ka hS tI fun p u a w hk hS=>?_;refine go hS fun a w hS=>?_;refine wl rfl (ky (v:=.bool (f.Key.Kind==b.Kind&&f.Key.Text.toList==b.Text.toList)) hS (zL hS rfl rfl) rfl rfl fun a hS=>?_);exact fz
  exact fz
 rintro a w ⟨hS,hM⟩;unfold u0 at hM;exact fz
def nw (b:Bool):Option Bool:=some (b)
def mi (d:aj) (g:LF) (b:ah):Option Bool:=(cr b).bind fun e=>cond e (some (false)) ((r7 g b).bind fun f=>cond f (some (false)) ((c8 d.Records b).bind fun c=>cond (!(c.2)) (nw true) (nw (c.1.Verified != d.Revision))))
theorem uZ (T:Nat→Prop) (W0:World) (hT:TW T W0) (b:aj) (g:LF) (c:ah) (o:Value) (p:Value) (q:Value) (l:aE ae T W0 o b.Inputs) (m:aE aa T W0 p b.Records) (n:aE az T W0 q g) (y:Bool) (hM:mi b g c=some y):bj aP No 124 [.agg (bf b o p).toArray,q,.agg (aV c).toArray] W0 (fun v w'=>v = .bool y):=by
 refine en Tryz.func124 Tryz.ntmps124 hT fun a hS=>?_;replace hS:=((hS.fS (aE.dn l)).fS (aE.dn m)).fS (aE.dn n);unfold mi at hM;refine ai hS fun a hS=>?_;refine kb hS fun r x a w hk hS=>?_;refine kb hS fun s z a w hk hS=>?_;refine ai hS fun a hS=>?_;refine aD ?_;refine iY ?_;refine ai hS fun a hS=>?_;obtain⟨B,h,hM⟩:=bd hM;refine kc hS yS (dJ _ _ hS.dlt c _ h) fun _ w hR a hk hA=>?_;obtain rfl:=hR;have hS:=bY hA;refine ai hS fun a hS=>?_;rcases cd hM with⟨e,hM⟩|⟨e,hM⟩
 ·exact fz
 refine ai hS fun a hS=>?_;obtain⟨C,i,hM⟩:=bd hM;refine wg hS rfl rfl rfl e (bg hS Hz rfl rfl (wF _ _ hS.dlt g c _ (hS.get 0 rfl) _ i) fun _ w hR a hk hA=>?_);obtain rfl:=hR;have hS:=bY hA;refine ai hS fun a hS=>?_;rcases cd hM with⟨k,hM⟩|⟨k,hM⟩
 ·exact fz
 refine ai hS fun a hS=>?_;obtain⟨D,j,hM⟩:=bd hM;refine kc hS mA (cj _ _ hS.dlt b.Records c _ (hS.get 1 rfl) _ j) fun _ w hR a hk hA=>?_;obtain⟨E,u,he,f⟩:=hR;obtain rfl:=he.symm;have hS:=qD hA f;refine ai hS fun a hS=>?_;refine ka hS gV fun t A a w hk hS=>?_;refine go hS fun a w hS=>?_;refine aK (J:=fun a w=>∃ (d:Bool),St W0 No T 32 [(6,.bool d)] [] [] a w∧nw d=some y) ?_ ?_
 ·exact fz
 rintro a w ⟨d,hS,hM⟩;unfold nw at hM;exact fz
def nT (c:ByteArray):Option Int:=(kX c).bind fun b=>cond (decide (b<0)) (some (0)) (cond (decide ((65535:Int)<b)) (some (0)) (some (b)))
theorem vW (T:Nat→Prop) (W0:World) (hT:TW T W0) (b:ByteArray) (y:Int) (hM:nT b=some y):bj aP No 200 [aO b] W0 (fun v w'=>v=al y):=by
 refine en Tryz.func200 Tryz.ntmps200 hT fun a hS=>?_;unfold nT at hM;refine ai hS fun a hS=>?_;obtain⟨d,c,hM⟩:=bd hM;refine kc hS KW (um _ _ hS.dlt b _ c) fun _ w hR a hk hA=>?_;obtain rfl:=hR;have hS:=bY hA;refine ai hS fun a hS=>?_;refine aD ?_;refine iY ?_;exact fz
def lJ (c:aW) (b:Int) (e:Int) (d:Int):Option Int:=cond (c.Final==1) (some (Int.tmod b 1000)) (cond (c.Final==2) (some (Int.tmod (IntKind.i64.wrap (Int.tdiv b 2)) 1000)) (cond (c.Final==3) (some (e)) (cond (c.Final==4) (some (Int.tmod b 2)) (some (d)))))
def jM (b:LY) (g:Int) (f:Int) (e:Int) (c:Int):Option (Fl (Int×Int×Int×Int) (Int×Int×Int)):=cond (decide (c<(b.length:Int))) ((bu b c).bind fun h=>(nT h).bind fun d=>some (.go (IntKind.i64.wrap (g+d),max f d,Ci .or .i64 e d,IntKind.i64.wrap (c+1)))) (some (.out (g,f,e)))
def qn (c:aW) (b:LY):Option Int:=(loop (fun s:Int×Int×Int×Int=>jM b s.1 s.2.1 s.2.2.1 s.2.2.2) (c.C,c.C,c.C,0)).bind fun r=>lJ c r.1 r.2.1 r.2.2
theorem Bb (T:Nat→Prop) (W0:World) (hT:TW T W0) (c:aW) (b:LY) (l:Value) (o:Value) (B:aE ff T W0 l c.Asks) (C:aE aY.str T W0 o b) (y:Int) (hM:qn c b=some y):bj aP No 199 [.agg (vN c l).toArray,o] W0 (fun v w'=>v=al y):=by
 refine en Tryz.func199 Tryz.ntmps199 hT fun a hS=>?_;replace hS:=(hS.fS (aE.dn B)).fS (aE.dn C);unfold qn at hM;refine ai hS fun a hS=>?_;refine kb hS fun g G a w hk hS=>?_;refine ai hS fun a hS=>?_;refine aD ?_;refine dr [] hS fun w hQ hS=>?_;refine gE [0,1,2,3,4,5,6,7,8] hS fun a hS=>?_;refine eD ?_;refine ai hS fun a hS=>?_;refine aK (J:=fun a w=>∃ (k:Int) (j:Int) (i:Int),St W0 No T 54 [(2,pt g 0),(5,al k),(6,al j),(7,al i)] [.box g (vN c l) 89] [aR ff l c.Asks] a w∧lJ c k j i=some y) ?_ ?_
 ·skip;refine ai hS fun a hS=>?_;obtain⟨K,A,hMo1⟩:=bd hM;refine bF _ (fun s a w=>∃ (f:Int) (e:Int) (d:Int) (h:Int),(f,e,d,h)=s∧St W0 No T 54 [(2,pt g 0),(5,al f),(6,al e),(7,al d),(17,o),(18,al (b.length:Int)),(19,al h)] [.box g (vN c l) 89] [aR aY.str o b,aR ff l c.Asks] a w) A ⟨_,_,_,_,rfl,hS.mt [0] [0,1]⟩ ?_;rintro s a w F ⟨f,e,d,h,rfl,hS⟩ hM hf1;have hM:jM b f e d h=some F:=hM;unfold jM at hM;refine ai hS fun a hS=>?_;refine aD ?_;rcases cd hM with⟨q,hM⟩|⟨q,hM⟩
  ·refine ai hS fun a hS=>?_;refine aD ?_;refine ai hS fun a hS=>?_;obtain⟨p,m,hM⟩:=bd hM;refine wl rfl (bm (R:=aY.str) hS IT Ji rfl rfl 0 rfl m rfl fun D H E r a hS=>?_);obtain rfl:=r;refine ai hS fun a hS=>?_;obtain⟨I,n,hM⟩:=bd hM;refine kc hS Lc (vW _ _ hS.dlt p _ n) fun _ w hR a hk hA=>?_;obtain rfl:=hR;have hS:=bY hA;refine ai hS fun a hS=>?_;refine qy hS (OQ hS rfl rfl) fun a hS=>?_;refine ai hS fun a hS=>?_;refine qy hS (M9 hS rfl rfl rfl) fun a hS=>?_;exact fz
  refine ai hS fun a hS=>?_;cases hM
  have hr:=hf1 _ rfl;subst hr;have hM:lJ c f e d=some y:=hMo1;exact⟨_,_,_,hS.mt [0] [1],hM⟩
 rintro a w ⟨k,j,i,hS,hM⟩;unfold lJ at hM;refine aD ?_;refine ai hS fun a hS=>?_;rcases cd hM with⟨t,hM⟩|⟨t,hM⟩
 ·refine ai hS fun a hS=>?_;refine qy hS (BW hS rfl rfl (by decide)) fun a hS=>?_;exact fz
 refine ai hS fun a hS=>?_;rcases cd hM with⟨u,hM⟩|⟨u,hM⟩
 ·refine ai hS fun a hS=>?_;refine qy hS (OU hS rfl rfl (by decide)) fun a hS=>?_;refine qy hS (BW hS rfl rfl (by decide)) fun a hS=>?_;exact fz
 refine ai hS fun a hS=>?_;rcases cd hM with⟨x,hM⟩|⟨x,hM⟩
 ·exact fz
 refine ai hS fun a hS=>?_;rcases cd hM with⟨z,hM⟩|⟨z,hM⟩
 ·refine ai hS fun a hS=>?_;refine qy hS (BW hS rfl rfl (by decide)) fun a hS=>?_;exact fz
 exact fz
def kZ (c:LU) (d:dA) (b:Int):Option pZ:=cond d.Cell ((c6 b).bind fun e=>some ((pZ.mk false bI e))) ((lG c b).bind fun f=>some ((pZ.mk false bI f)))
def k5 (c:LU) (b:dA) (d:Bool):Option pZ:=cond d (kZ c b b.Else) (kZ c b b.N)
def g9 (c:LU) (g:ah) (b:LY):Option pZ:=(iP g).bind fun f=>cond (decide (f<0)) (some ((pZ.mk true bI (ah.mk 0 bI)))) (cond (decide ((c.length:Int)≤f)) (some ((pZ.mk true bI (ah.mk 0 bI)))) ((lG c f).bind fun h=>cond (!(h.Kind==g.Kind&&h.Text.toList==g.Text.toList)) (some ((pZ.mk true bI (ah.mk 0 bI)))) ((bu c f).bind fun e=>cond (decide ((e.Asks.length:Int)≤(b.length:Int))) ((o0 b 0 (e.Asks.length:Int)).bind fun j=>(qn e j).bind fun k=>(w6 k).bind fun l=>some ((pZ.mk true l (ah.mk 0 bI)))) ((bu e.Asks (b.length:Int)).bind fun d=>cond d.Pick (cond ((b.length:Int)==0) (k5 c d true) ((bu b (IntKind.i64.wrap ((b.length:Int)-1))).bind fun i=>(nT i).bind fun m=>k5 c d ((Int.tmod m 2:Int)==0))) (k5 c d false)))))
theorem xg (T:Nat→Prop) (W0:World) (hT:TW T W0) (hLv:di T W0) (b:LU) (j:ah) (d:LY) (p:Value) (v2:Value) (Z:aE aC T W0 p b) (a0:aE aY.str T W0 v2 d) (y:pZ) (hM:g9 b j d=some y):bj aP No 182 [p,.agg (aV j).toArray,v2] W0 (fun v w'=>v = .agg (KQ y).toArray):=by
 refine en Tryz.func182 Tryz.ntmps182 hT fun a hS=>?_;replace hS:=((hS.fact bC (di.dn hLv)).fS (aE.dn Z)).fS (aE.dn a0);unfold g9 at hM;refine ai hS fun a hS=>?_;refine kb hS fun a2 ak a w hk hS=>?_;refine ka hS oY fun e ao a w hk hS=>?_;refine ai hS fun a hS=>?_;obtain⟨W,A,hM⟩:=bd hM;refine kc hS JI (ox _ _ hS.dlt j _ A) fun _ w hR a hk hA=>?_;obtain rfl:=hR;have hS:=bY hA;refine ai hS fun a hS=>?_;refine aD ?_;refine aD ?_;refine dr [] hS fun w hQ hS=>?_;refine gE [0,1,2] hS fun a hS=>?_;rcases cd hM with⟨I,hM⟩|⟨I,hM⟩
 ·refine gE [3,4,5,6,7,8,9,10,11,12,13,14] hS fun a hS=>?_;refine eD ?_;refine ai hS fun a hS=>?_;refine qy hS (bq (ps:=[(0,.const (.bool true))]) hS xf oY rfl (us:=[[.bool true]]) ⟨rfl,trivial⟩ (ws:=[.bool true,aO bI,al 0,aO bI]) rfl) fun a hS=>?_;refine go hS fun a w hS=>?_;cases hM
  refine aI hS rfl (rC 0 hS) ?_;exact rfl
 refine gE [3,4,5,6,7,8] hS fun a hS=>?_;rcases cd hM with⟨l,hM⟩|⟨l,hM⟩
 ·refine gE [9,10,11,12,13,14] hS fun a hS=>?_;refine eD ?_;refine ai hS fun a hS=>?_;refine qy hS (bq (ps:=[(0,.const (.bool true))]) hS xf oY rfl (us:=[[.bool true]]) ⟨rfl,trivial⟩ (ws:=[.bool true,aO bI,al 0,aO bI]) rfl) fun a hS=>?_;refine go hS fun a w hS=>?_;cases hM
  refine aI hS rfl (rC 0 hS) ?_;exact rfl
 refine gE [9,10,12] hS fun a hS=>?_;obtain⟨q,B,hM⟩:=bd hM;refine cI (i:=11) rfl (by kernel_rfl) hS rfl rfl rfl l (bg hS Bu rfl rfl (pr _ _ hS.dlt (hS.get 2 rfl) b W _ (hS.get 1 rfl) _ B) fun _ w hR a hk hA=>⟨gf (hk),?_⟩);obtain rfl:=hR;have hS:=bY hA;refine y7 13 (v:=.bool (!(q.Kind==j.Kind&&q.Text.toList==j.Text.toList))) rfl (by kernel_rfl) (by kernel_rfl) (by kernel_rfl) rfl hQ hS (zM hS rfl rfl) rfl rfl rfl l rfl rfl fun a hS=>?_;refine gE [14] hS fun a hS=>?_;refine eD ?_;refine ai hS fun a hS=>?_;rcases cd hM with⟨K,hM⟩|⟨K,hM⟩
 ·refine ai hS fun a hS=>?_;refine qy hS (bq (ps:=[(0,.const (.bool true))]) hS xf oY rfl (us:=[[.bool true]]) ⟨rfl,trivial⟩ (ws:=[.bool true,aO bI,al 0,aO bI]) rfl) fun a hS=>?_;refine go hS fun a w hS=>?_;cases hM
  refine aI hS rfl (rC 0 hS) ?_;exact rfl
 refine ai hS fun a hS=>?_;obtain⟨G,s,hM⟩:=bd hM;refine wl rfl (bm (R:=aC) hS yk xA rfl rfl 1 rfl s rfl fun a3 b1 ab L a hS=>?_);obtain⟨b5,rfl,F⟩:=L;replace hS:=hS.fS F;refine ai hS fun a hS=>?_;refine ka hS y0 fun a4 av a w hk hS=>?_;refine go hS fun a w hS=>?_;refine aD ?_;refine ai hS fun a hS=>?_;rcases cd hM with⟨M,hM⟩|⟨M,hM⟩
 ·refine ai hS fun a hS=>?_;refine aD ?_;refine dr [(9,.blk (some e))] hS fun w hQ hS=>?_;refine gE [0,1,2,3,4] hS fun a hS=>?_;obtain⟨V,u,hM⟩:=bd hM;obtain⟨Y,O,hS⟩:=Og (R:=aY.str) hS IT Ji 2 rfl u;refine dy 5 (v:=Y) rfl (by kernel_rfl) (by kernel_rfl) (by kernel_rfl) rfl hQ hS (O (k1:=.i64) rfl (.inr ⟨rfl,rfl⟩) (.inl ⟨_,rfl,rfl⟩)) rfl rfl rfl fun a hS=>?_;obtain⟨X,C,hM⟩:=bd hM;refine ec 6 hS NZ (Bb _ _ hS.dlt G V _ _ (hS.get 1 rfl) (hS.get 0 rfl) _ C) fun _ w hR a hk hA=>?_;obtain rfl:=hR;have hS:=bY hA;obtain⟨o,D,hM⟩:=bd hM;refine ec 7 hS JF (y8 _ _ hS.dlt (hS.get 5 rfl) X _ D) fun _ w hR a hk hA=>?_;obtain rfl:=hR;have hS:=bY hA;refine dy 8 (v:=.agg #[.bool true,aO o,al 0,aO bI]) rfl (by kernel_rfl) (by kernel_rfl) (by kernel_rfl) rfl hQ hS (bq (ps:=[(0,.const (.bool true)),(1,.tmp 48)]) hS xf oY rfl (us:=[[.bool true],[aO o]]) ⟨rfl,⟨rfl,trivial⟩⟩ (ws:=[.bool true,aO o,al 0,aO bI]) rfl) rfl rfl rfl fun a hS=>?_;refine es 9 hS fun w hS=>?_;refine eD ?_;refine ai hS fun a hS=>?_;cases hM
  refine aI hS rfl (rC 1 hS) ?_;exact rfl
 refine ai hS fun a hS=>?_;obtain⟨f,r,hM⟩:=bd hM;refine wl rfl (bm (R:=ff) hS M2 M5 rfl rfl 0 rfl r rfl fun a5 b2 af P a hS=>?_);obtain rfl:=P;refine ai hS fun a hS=>?_;refine ka hS Ff fun g b0 a w hk hS=>?_;refine go hS fun a w hS=>?_;refine aK (J:=fun a w=>∃ (c:Int),St W0 No T 84 [(0,p),(6,pt e 0),(10,pt g 0),(11,al c)] [.box e [.bool false,aO bI,al 0,aO bI] 190,.box g (Ly f) 93] [aR aC p b,bC] a w∧kZ b f c=some y) ?_ ?_
 ·skip;refine aK (J:=fun a w=>∃ (k:Bool),St W0 No T 84 [(0,p),(6,pt e 0),(10,pt g 0),(11,al f.N),(72,.bool k)] [.box e [.bool false,aO bI,al 0,aO bI] 190,.box g (Ly f) 93] [aR aC p b,bC] a w∧k5 b f k=some y) ?_ ?_
  ·skip;refine ai hS fun a hS=>?_;rcases cd hM with⟨Q,hM⟩|⟨Q,hM⟩
   ·refine ai hS fun a hS=>?_;rcases cd hM with⟨h,hM⟩|⟨h,hM⟩
    ·exact fz
    refine ai hS fun a hS=>?_;obtain⟨H,t,hM⟩:=bd hM;refine wg hS rfl rfl rfl h (bm (R:=aY.str) hS IT Ji rfl rfl 3 rfl t rfl fun a9 b3 ag S a hS=>?_);obtain rfl:=S;refine ai hS fun a hS=>?_;obtain⟨b4,E,hM⟩:=bd hM;refine wg hS rfl rfl rfl h (bg hS Lc rfl rfl (vW _ _ hS.dlt H _ E) fun _ w hR a hk hA=>?_);obtain rfl:=hR;have hS:=bY hA;refine qg hS h (BW hS rfl rfl (by decide)) fun a hS=>?_;exact fz
   exact fz
  rintro a w ⟨k,hS,hM⟩;unfold k5 at hM;exact fz
 rintro a w ⟨c,hS,hM⟩;unfold kZ at hM;refine aD ?_;refine ai hS fun a hS=>?_;rcases cd hM with⟨U,hM⟩|⟨U,hM⟩
 ·refine ai hS fun a hS=>?_;obtain⟨m,x,hM⟩:=bd hM;refine kc hS xO (dO _ _ hS.dlt (hS.get 1 rfl) c _ x) fun _ w hR a hk hA=>?_;obtain rfl:=hR;have hS:=bY hA;refine qy hS (bq (ps:=[(2,.tmp 78)]) hS xf oY rfl (us:=[(aV m)]) ⟨rfl,trivial⟩ (ws:=[.bool false,aO bI,al m.Kind,aO m.Text]) rfl) fun a hS=>?_;refine go hS fun a w hS=>?_;cases hM
  refine aI hS rfl (rC 0 hS) ?_;exact rfl
 refine ai hS fun a hS=>?_;obtain⟨n,z,hM⟩:=bd hM;refine kc hS Bu (pr _ _ hS.dlt (hS.get 1 rfl) b c _ (hS.get 0 rfl) _ z) fun _ w hR a hk hA=>?_;obtain rfl:=hR;have hS:=bY hA;refine qy hS (bq (ps:=[(2,.tmp 82)]) hS xf oY rfl (us:=[(aV n)]) ⟨rfl,trivial⟩ (ws:=[.bool false,aO bI,al n.Kind,aO n.Text]) rfl) fun a hS=>?_;refine go hS fun a w hS=>?_;cases hM
 refine aI hS rfl (rC 0 hS) ?_;exact rfl
def ey (d:LU) (c:ah) (b:LY):Option pZ:=cond (c.Kind==31) ((g9 d c b).bind fun e=>some (e)) (cond (c.Kind==32) ((g9 d c b).bind fun f=>some (f)) ((cr c).bind fun g=>cond g (some ((pZ.mk true bI (ah.mk 0 bI)))) (cond (decide (c.Kind<1)) (some ((pZ.mk true bI (ah.mk 0 bI)))) (cond (decide ((22:Int)<c.Kind)) (some ((pZ.mk true bI (ah.mk 0 bI)))) (none)))))
theorem gz (T:Nat→Prop) (W0:World) (hT:TW T W0) (hLv:di T W0) (c:LU) (d:ah) (b:LY) (o:Value) (p:Value) (m:aE aC T W0 o c) (n:aE aY.str T W0 p b) (y:pZ) (hM:ey c d b=some y):bj aP No 152 [o,.agg (aV d).toArray,p] W0 (fun v w'=>v = .agg (KQ y).toArray):=by
 refine en Tryz.func152 Tryz.ntmps152 hT fun a hS=>?_;replace hS:=((hS.fact bC (di.dn hLv)).fS (aE.dn m)).fS (aE.dn n);unfold ey at hM;refine ai hS fun a hS=>?_;refine kb hS fun q s a w hk hS=>?_;refine ka hS oY fun r t a w hk hS=>?_;refine ai hS fun a hS=>?_;refine aD ?_;refine ai hS fun a hS=>?_;refine iY ?_;refine ai hS fun a hS=>?_;rcases cd hM with⟨h,hM⟩|⟨h,hM⟩
 ·refine ai hS fun a hS=>?_;obtain⟨u,e,hM⟩:=bd hM;refine kc hS Lb (xg _ _ hS.dlt (hS.get 2 rfl) c d b _ _ (hS.get 1 rfl) (hS.get 0 rfl) _ e) fun _ w hR a hk hA=>?_;obtain rfl:=hR;have hS:=bY hA;refine go hS fun a w hS=>?_;cases hM
  refine aI hS rfl (rC 0 hS) ?_;exact rfl
 refine ai hS fun a hS=>?_;rcases cd hM with⟨i,hM⟩|⟨i,hM⟩
 ·refine ai hS fun a hS=>?_;obtain⟨x,f,hM⟩:=bd hM;refine kc hS Lb (xg _ _ hS.dlt (hS.get 2 rfl) c d b _ _ (hS.get 1 rfl) (hS.get 0 rfl) _ f) fun _ w hR a hk hA=>?_;obtain rfl:=hR;have hS:=bY hA;refine go hS fun a w hS=>?_;cases hM
  refine aI hS rfl (rC 0 hS) ?_;exact rfl
 refine ai hS fun a hS=>?_;refine iY ?_;refine ai hS fun a hS=>?_;obtain⟨z,g,hM⟩:=bd hM;refine kc hS yS (dJ _ _ hS.dlt d _ g) fun _ w hR a hk hA=>?_;obtain rfl:=hR;have hS:=bY hA;refine ai hS fun a hS=>?_;rcases cd hM with⟨j,hM⟩|⟨j,hM⟩
 ·refine ai hS fun a hS=>?_;refine qy hS (bq (ps:=[(0,.const (.bool true))]) hS xf oY rfl (us:=[[.bool true]]) ⟨rfl,trivial⟩ (ws:=[.bool true,aO bI,al 0,aO bI]) rfl) fun a hS=>?_;refine go hS fun a w hS=>?_;cases hM
  refine aI hS rfl (rC 0 hS) ?_;exact rfl
 refine ai hS fun a hS=>?_;rcases cd hM with⟨k,hM⟩|⟨k,hM⟩
 ·refine ai hS fun a hS=>?_;refine qy hS (bq (ps:=[(0,.const (.bool true))]) hS xf oY rfl (us:=[[.bool true]]) ⟨rfl,trivial⟩ (ws:=[.bool true,aO bI,al 0,aO bI]) rfl) fun a hS=>?_;refine go hS fun a w hS=>?_;cases hM
  refine aI hS rfl (rC 0 hS) ?_;exact rfl
 refine ai hS fun a hS=>?_;rcases cd hM with⟨l,hM⟩|⟨l,hM⟩
 ·refine ai hS fun a hS=>?_;refine qy hS (bq (ps:=[(0,.const (.bool true))]) hS xf oY rfl (us:=[[.bool true]]) ⟨rfl,trivial⟩ (ws:=[.bool true,aO bI,al 0,aO bI]) rfl) fun a hS=>?_;refine go hS fun a w hS=>?_;cases hM
  refine aI hS rfl (rC 0 hS) ?_;exact rfl
 refine ai hS fun a hS=>?_;cases hM
def oB (b:LR):Option LR:=some (b)
def oC (e:aw) (b:LR) (d:Bool):Option LR:=cond (!(d)) ((gD e).bind fun c=>gd (bH (b.length+([c]).length)) <| oB (b++([c]))) (oB b)
def iR (b:Int) (c:LR) (d:Bool):Option (Fl (LR×Bool×Int) (LR×Bool)):=some (.go (c,d,IntKind.i64.wrap (b+1)))
def iS (d:Int) (c:aw) (f:Int) (b:LR) (e:Bool):Option (Fl (LR×Bool×Int) (LR×Bool)):=cond (f != 0) (gd (bH (b.length+([c]).length)) <| iR d (b++([c])) e) (iR d b e)
def iT (i:aw) (b:LR) (h:Bool) (d:Int) (c:aw) (e:Int) (g:Bool):Option (Fl (LR×Bool×Int) (LR×Bool)):=cond g ((gD i).bind fun f=>gd (bH (b.length+([f]).length)) <| iS d c e (b++([f])) true) (iS d c e b h)
def rb (h:LR) (g:aw) (e:LR) (c:Bool) (b:Int):Option (Fl (LR×Bool×Int) (LR×Bool)):=cond (decide (b<(h.length:Int))) ((bu h b).bind fun d=>(jK d.Key g.Key).bind fun f=>cond (decide ((0:Int)≤f)) (iT g e c b d f (!(c))) (iT g e c b d f false)) (some (.out (e,c)))
def me (c:LR) (b:aw):Option LR:=(loop (fun s:LR×Bool×Int=>rb c b s.1 s.2.1 s.2.2) (([]:List aw),false,0)).bind fun r=>oC b r.1 r.2
theorem yL (T:Nat→Prop) (W0:World) (hT:TW T W0) (hLv:di T W0) (f:LR) (b:aw) (p:Value) (m:Value) (ak:aE aa T W0 p f) (ao:aE ac T W0 m b.Reads) (y:LR) (hM:me f b=some y):bj aP No 153 [p,.agg (br b m).toArray] W0 (fun v w'=>∃ (v3:Value) (sI:bv),v=v3∧gg aa T W0 w' [aS v3 sI] 84 v3 sI y):=by
 refine en Tryz.func153 Tryz.ntmps153 hT fun a hS=>?_;replace hS:=((hS.fact bC (di.dn hLv)).fS (aE.dn ak)).fS (aE.dn ao);unfold me at hM;refine ai hS fun a hS=>?_;refine kb hS fun d bb a w hk hS=>?_;refine ai hS fun a hS=>?_;refine aK (J:=fun a w=>∃ (t:LR) (H:Bool) (L:Value) (B:LV),St W0 No T 47 [(3,pt d 0),(5,L),(6,.bool H)] [aS L B,.box d (br b m) 84] [an aa B t,aR ac m b.Reads,bC] a w∧oC b t H=some y) ?_ ?_
 ·skip;refine ai hS fun a hS=>?_;replace hS:=hS.nilRow aa 84 (by decide);obtain⟨r1,ag,hMo1⟩:=bd hM;refine bF _ (fun s a w=>∃ (g:LR) (h:Bool) (e:Int) (o:Value) (n:LV),(g,h,e)=s∧St W0 No T 47 [(3,pt d 0),(5,o),(6,.bool h),(10,p),(11,al (f.length:Int)),(12,al e)] [aS o n,.box d (br b m) 84] [an aa n g,aR aa p f,aR ac m b.Reads,bC] a w) ag ⟨_,_,_,_,_,rfl,hS.mt [0,1] [0,2,1,3]⟩ ?_;rintro s a w U ⟨g,h,e,o,n,rfl,hS⟩ hM hf1;have hM:rb f b g h e=some U:=hM;unfold rb at hM;refine ai hS fun a hS=>?_;refine aD ?_;rcases cd hM with⟨a0,hM⟩|⟨a0,hM⟩
  ·refine ai hS fun a hS=>?_;refine aK (J:=fun a w=>∃ (G:LR) (I:Bool) (M:Value) (C:LV),St W0 No T 47 [(3,pt d 0),(5,M),(6,.bool I),(10,p),(11,al (f.length:Int)),(12,al e)] [aS M C,.box d (br b m) 84] [an aa C G,aR aa p f,aR ac m b.Reads,bC] a w∧iR e G I=some U) ?_ ?_
   ·skip;refine ai hS fun a hS=>?_;obtain⟨c,V,hM⟩:=bd hM;refine wl rfl (bm (R:=aa) hS qB m5 rfl rfl 1 rfl V rfl fun av bl b3 a1 a hS=>?_);obtain⟨j,rfl,Z⟩:=a1;replace hS:=hS.fS Z;refine ai hS fun a hS=>?_;refine ka hS gV fun q bi a w hk hS=>?_;refine go hS fun a w hS=>?_;obtain⟨z,X,hM⟩:=bd hM;refine kc hS ED (lF _ _ hS.dlt (hS.get 5 rfl) c.Key b.Key _ X) fun _ w hR a hk hA=>?_;obtain rfl:=hR;have hS:=bY hA;refine ai hS fun a hS=>?_;refine aK (J:=fun a w=>∃ (u:LR) (K:Bool) (N:Value) (D:LV),St W0 No T 47 [(3,pt d 0),(5,N),(6,.bool K),(8,pt q 0),(9,al z),(10,p),(11,al (f.length:Int)),(12,al e)] [aS N D,.box d (br b m) 84,.box q (br c j) 84] [an aa D u,aR aa p f,aR ac m b.Reads,aR ac j c.Reads,bC] a w∧iS e c z u K=some U) ?_ ?_
    ·skip;refine aK (J:=fun a w=>∃ (E:Bool),St W0 No T 47 [(3,pt d 0),(5,o),(6,.bool h),(8,pt q 0),(9,al z),(10,p),(11,al (f.length:Int)),(12,al e),(26,.bool E)] [aS o n,.box d (br b m) 84,.box q (br c j) 84] [an aa n g,aR aa p f,aR ac m b.Reads,aR ac j c.Reads,bC] a w∧iT b g h e c z E=some U) ?_ ?_
     ·exact fz
     rintro a w ⟨E,hS,hM⟩;unfold iT at hM;rcases cd hM with⟨a2,hM⟩|⟨a2,hM⟩
     ·refine ai hS fun a hS=>?_;obtain⟨l,Y,hM⟩:=bd hM;refine kc hS Fr (ni _ _ hS.dlt b _ (hS.get 2 rfl) _ Y) fun _ w hR a hk hA=>?_;obtain⟨O,b4,he,Q⟩:=hR;obtain rfl:=he.symm;have hS:=qD hA Q;refine wl rfl (a8 (ps:=[(0,.tmp 29)]) hS tp gV (zl:=[al 0,aO bI,aO bI,.slice none 0 0,al 0,al 0,al 0,.bool false]) (by kernel_rfl) rfl (us:=[(br l O)]) ⟨rfl,trivial⟩ (ws:=(br l O)) rfl rfl rfl rfl fun b0 a w hk hS=>?_);replace hS:=hS.freeze (R:=ac) 1 rfl 0 rfl;replace hS:=(hS.lit (R:=aa) (us:=(br l O)) (xs:=[l]) 0 rfl (by decide) (aA.one_ (R:=aa) (x:=l) (⟨_,rfl,(hS.get 0 rfl)⟩)) rfl rfl).freeze (R:=aa) 0 rfl 0 rfl;obtain⟨a3,hM⟩:=be hM;refine wl rfl (bM (R:=aa) (xs:=g) (ys:=[l]) hS tp (by decide) (by decide) rfl rfl 0 rfl 4 rfl 0 rfl a3 rfl fun bs b5 a w hk hS=>?_);exact fz
     exact fz
    rintro a w ⟨u,K,N,D,hS,hM⟩;unfold iS at hM;refine ai hS fun a hS=>?_;rcases cd hM with⟨a4,hM⟩|⟨a4,hM⟩
    ·refine ai hS fun a hS=>?_;refine wl rfl (a8 (ps:=[(0,.tmp 35)]) hS tp gV (zl:=[al 0,aO bI,aO bI,.slice none 0 0,al 0,al 0,al 0,.bool false]) (by kernel_rfl) rfl (us:=[(br c j)]) ⟨rfl,trivial⟩ (ws:=(br c j)) rfl rfl rfl rfl fun b1 a w hk hS=>?_);replace hS:=(hS.lit (R:=aa) (us:=(br c j)) (xs:=[c]) 0 rfl (by decide) (aA.one_ (R:=aa) (x:=c) (⟨_,rfl,(hS.get 3 rfl)⟩)) rfl rfl).freeze (R:=aa) 0 rfl 0 rfl;obtain⟨a5,hM⟩:=be hM;refine wl rfl (bM (R:=aa) (xs:=u) (ys:=[c]) hS tp (by decide) (by decide) rfl rfl 0 rfl 2 rfl 0 rfl a5 rfl fun bt b6 a w hk hS=>?_);exact fz
    exact fz
   rintro a w ⟨G,I,M,C,hS,hM⟩;unfold iR at hM;exact fz
  refine ai hS fun a hS=>?_;cases hM
  have hr:=hf1 _ rfl;subst hr;have hM:oC b g h=some y:=hMo1;exact⟨_,_,_,_,hS.mt [0,1] [0,2,3],hM⟩
 rintro a w ⟨t,H,L,B,hS,hM⟩;unfold oC at hM;refine aK (J:=fun a w=>∃ (F:LR) (A:Value) (r:LV),St W0 No T 47 [(5,A)] [aS A r] [an aa r F,bC] a w∧oB F=some y) ?_ ?_
 ·skip;refine ai hS fun a hS=>?_;rcases cd hM with⟨a9,hM⟩|⟨a9,hM⟩
  ·refine ai hS fun a hS=>?_;obtain⟨k,W,hM⟩:=bd hM;refine kc hS Fr (ni _ _ hS.dlt b _ (hS.get 1 rfl) _ W) fun _ w hR a hk hA=>?_;obtain⟨P,b8,he,S⟩:=hR;obtain rfl:=he.symm;have hS:=qD hA S;refine wl rfl (a8 (ps:=[(0,.tmp 43)]) hS tp gV (zl:=[al 0,aO bI,aO bI,.slice none 0 0,al 0,al 0,al 0,.bool false]) (by kernel_rfl) rfl (us:=[(br k P)]) ⟨rfl,trivial⟩ (ws:=(br k P)) rfl rfl rfl rfl fun b2 a w hk hS=>?_);replace hS:=hS.freeze (R:=ac) 1 rfl 0 rfl;replace hS:=(hS.lit (R:=aa) (us:=(br k P)) (xs:=[k]) 0 rfl (by decide) (aA.one_ (R:=aa) (x:=k) (⟨_,rfl,(hS.get 0 rfl)⟩)) rfl rfl).freeze (R:=aa) 0 rfl 0 rfl;obtain⟨ab,hM⟩:=be hM;refine wl rfl (bM (R:=aa) (xs:=t) (ys:=[k]) hS tp (by decide) (by decide) rfl rfl 0 rfl 4 rfl 0 rfl ab rfl fun c0 b9 a w hk hS=>?_);exact fz
  exact fz
 rintro a w ⟨F,A,r,hS,hM⟩;unfold oB at hM;refine ai hS fun a hS=>?_;cases hM
 refine aI hS rfl (aq hS rfl aH) ?_;exact⟨A,r,rfl,hS.retOwn ⟨.inr (a6 (i:=0) rfl),trivial⟩ 0 rfl 0 rfl⟩
def mT (e:aj) (f:ah) (c:ByteArray) (b:LK) (d:Int):Option aw:=some ((aw.mk f c b d e.Revision (IntKind.i64.wrap (1+(b.length:Int))) false))
def mU (d:aj) (e:ah) (c:ByteArray) (b:LK) (g:(aw×Bool)) (f:Bool):Option aw:=cond f (mT d e c b g.1.Changed) (mT d e c b d.Revision)
def pA (e:aj) (f:ah) (b:ByteArray) (d:LK):Option aw:=(c8 e.Records f).bind fun c=>cond c.2 (mU e f b d c (c.1.Value.toList==b.toList)) (mU e f b d c false)
theorem xm (T:Nat→Prop) (W0:World) (hT:TW T W0) (d:aj) (e:ah) (c:ByteArray) (b:LK) (t:Value) (u:Value) (h:Value) (q:aE ae T W0 t d.Inputs) (r:aE aa T W0 u d.Records) (s:aE ac T W0 h b) (y:aw) (hM:pA d e c b=some y):bj aP No 154 [.agg (bf d t u).toArray,.agg (aV e).toArray,aO c,h] W0 (fun v w'=>∃ (x:Value),v = .agg (br y x).toArray∧aE ac (dT T []) w' x y.Reads):=by
 refine en Tryz.func154 Tryz.ntmps154 hT fun a hS=>?_;replace hS:=((hS.fS (aE.dn q)).fS (aE.dn r)).fS (aE.dn s);unfold pA at hM;refine ai hS fun a hS=>?_;refine kb hS fun z B a w hk hS=>?_;refine kb hS fun A C a w hk hS=>?_;refine ka hS gV fun f D a w hk hS=>?_;refine ai hS fun a hS=>?_;refine qy hS (bq (ps:=[(0,.tmp 12),(1,.tmp 13),(2,.tmp 14),(3,.tmp 16),(4,.tmp 18),(5,.tmp 21)]) hS Oy gV rfl (us:=[(aV e),[aO c],[h],[al d.Revision],[al d.Revision],[al (IntKind.i64.wrap (1+(b.length:Int)))]]) ⟨rfl,⟨rfl,⟨(ft (aE.one ((hS.get 0 rfl):aE ac _ _ _ _))),⟨rfl,⟨rfl,⟨rfl,trivial⟩⟩⟩⟩⟩⟩ (ws:=[al e.Kind,aO e.Text,aO c,h,al d.Revision,al d.Revision,al (IntKind.i64.wrap (1+(b.length:Int))),.bool false]) rfl) fun a hS=>?_;refine ka hS gV fun g E a w hk hS=>?_;refine go hS fun a w hS=>?_;refine aK (J:=fun a w=>∃ (j:Int),St W0 No T 41 [(8,pt f 0),(9,pt g 0)] [.box f [al 0,aO bI,aO bI,.slice none 0 0,al 0,al 0,al 0,.bool false] 84,.box g [al e.Kind,aO e.Text,aO c,h,al j,al d.Revision,al (IntKind.i64.wrap (1+(b.length:Int))),.bool false] 84] [aR ac h b] a w∧mT d e c b j=some y) ?_ ?_
 ·skip;refine ai hS fun a hS=>?_;obtain⟨k,p,hM⟩:=bd hM;refine kc hS mA (cj _ _ hS.dlt d.Records e _ (hS.get 1 rfl) _ p) fun _ w hR a hk hA=>?_;obtain⟨o,m,he,n⟩:=hR;obtain rfl:=he.symm;have hS:=qD hA n;refine ai hS fun a hS=>?_;refine ka hS gV fun l F a w hk hS=>?_;refine go hS fun a w hS=>?_;refine aK (J:=fun a w=>∃ (i:Bool),St W0 No T 41 [(8,pt f 0),(9,pt g 0),(10,pt l 0),(36,.bool i)] [.box f [al 0,aO bI,aO bI,.slice none 0 0,al 0,al 0,al 0,.bool false] 84,.box g [al e.Kind,aO e.Text,aO c,h,al d.Revision,al d.Revision,al (IntKind.i64.wrap (1+(b.length:Int))),.bool false] 84,ay o m,.box l (br k.1 o) 84] [aR ac h b,an ac m k.1.Reads] a w∧mU d e c b k i=some y) ?_ ?_
  ·exact fz
  rintro a w ⟨i,hS,hM⟩;unfold mU at hM;exact fz
 rintro a w ⟨j,hS,hM⟩;unfold mT at hM;refine go hS fun a w hS=>?_;cases hM
 refine aI hS rfl (rC 0 hS) ?_;exact⟨h,rfl,(aE.up trivial (hS.get 0 rfl))⟩
def k8 (h:aj) (i:LF) (b:LF) (c:ah) (d:Bool):Option Int:=cond d (some (3)) ((mi h i c).bind fun e=>cond (!(e)) (some (0)) ((r7 b c).bind fun f=>cond (!(f)) (some (1)) ((cN c).bind fun g=>cond g (some (0)) (some (2)))))
def pB (e:aj) (d:LF) (b:LF) (c:ah):Option Int:=(cN c).bind fun f=>cond (!(f)) ((r7 d c).bind fun g=>k8 e d b c g) (k8 e d b c false)
theorem xp (T:Nat→Prop) (W0:World) (hT:TW T W0) (c:aj) (e:LF) (b:LF) (d:ah) (o:Value) (p:Value) (q:Value) (r:Value) (x:aE ae T W0 o c.Inputs) (z:aE aa T W0 p c.Records) (A:aE az T W0 q e) (B:aE az T W0 r b) (y:Int) (hM:pB c e b d=some y):bj aP No 155 [.agg (bf c o p).toArray,q,r,.agg (aV d).toArray] W0 (fun v w'=>v=al y):=by
 refine en Tryz.func155 Tryz.ntmps155 hT fun a hS=>?_;replace hS:=(((hS.fS (aE.dn x)).fS (aE.dn z)).fS (aE.dn A)).fS (aE.dn B);unfold pB at hM;refine ai hS fun a hS=>?_;refine kb hS fun g C a w hk hS=>?_;refine kb hS fun h D a w hk hS=>?_;refine ai hS fun a hS=>?_;refine aD ?_;refine ai hS fun a hS=>?_;refine aK (J:=fun a w=>∃ (f:Bool),St W0 No T 32 [(1,q),(2,r),(4,pt g 0),(7,pt h 0),(9,.bool f)] [.box g (bf c o p) 31,.box h (aV d) 44] [aR az q e,aR az r b,aR ae o c.Inputs,aR aa p c.Records] a w∧k8 c e b d f=some y) ?_ ?_
 ·skip;refine ai hS fun a hS=>?_;obtain⟨H,m,hM⟩:=bd hM;refine kc hS xQ (c7 _ _ hS.dlt d _ m) fun _ w hR a hk hA=>?_;obtain rfl:=hR;have hS:=bY hA;refine ai hS fun a hS=>?_;rcases cd hM with⟨i,hM⟩|⟨i,hM⟩
  ·refine ai hS fun a hS=>?_;obtain⟨I,n,hM⟩:=bd hM;refine wg hS rfl rfl rfl i (bg hS Hz rfl rfl (wF _ _ hS.dlt e d _ (hS.get 1 rfl) _ n) fun _ w hR a hk hA=>?_);obtain rfl:=hR;have hS:=bY hA;exact fz
  exact fz
 rintro a w ⟨f,hS,hM⟩;unfold k8 at hM;rcases cd hM with⟨s,hM⟩|⟨s,hM⟩
 ·exact fz
 refine ai hS fun a hS=>?_;obtain⟨E,j,hM⟩:=bd hM;refine kc hS KZ (uZ _ _ hS.dlt c e d _ _ _ (hS.get 2 rfl) (hS.get 3 rfl) (hS.get 0 rfl) _ j) fun _ w hR a hk hA=>?_;obtain rfl:=hR;have hS:=bY hA;refine ai hS fun a hS=>?_;rcases cd hM with⟨t,hM⟩|⟨t,hM⟩
 ·exact fz
 refine ai hS fun a hS=>?_;obtain⟨F,k,hM⟩:=bd hM;refine kc hS Hz (wF _ _ hS.dlt b d _ (hS.get 1 rfl) _ k) fun _ w hR a hk hA=>?_;obtain rfl:=hR;have hS:=bY hA;refine ai hS fun a hS=>?_;rcases cd hM with⟨u,hM⟩|⟨u,hM⟩
 ·exact fz
 refine ai hS fun a hS=>?_;obtain⟨G,l,hM⟩:=bd hM;refine kc hS xQ (c7 _ _ hS.dlt d _ l) fun _ w hR a hk hA=>?_;obtain rfl:=hR;have hS:=bY hA;exact fz
def uR (b:Int):Option ByteArray:=cond (b==14) (some ((ByteArray.mk #[48]))) (some (bI))
theorem A9 (T:Nat→Prop) (W0:World) (hT:TW T W0) (b:Int) (y:ByteArray) (hM:uR b=some y):bj aP No 311 [al b] W0 (fun v w'=>v=aO y):=by
 refine en Tryz.func311 Tryz.ntmps311 hT fun a hS=>?_;unfold uR at hM;refine ai hS fun a hS=>?_;refine aD ?_;exact fz
def ke (b:ah):Option ByteArray:=cond (b.Kind==32) (some ((ByteArray.mk #[48]))) ((cN b).bind fun c=>cond c ((uR b.Kind).bind fun d=>some (d)) (some (bI)))
theorem sW (T:Nat→Prop) (W0:World) (hT:TW T W0) (b:ah) (y:ByteArray) (hM:ke b=some y):bj aP No 236 [.agg (aV b).toArray] W0 (fun v w'=>v=aO y):=by
 refine en Tryz.func236 Tryz.ntmps236 hT fun a hS=>?_;unfold ke at hM;refine ai hS fun a hS=>?_;refine kb hS fun g h a w hk hS=>?_;refine ai hS fun a hS=>?_;refine aD ?_;refine ai hS fun a hS=>?_;rcases cd hM with⟨e,hM⟩|⟨e,hM⟩
 ·exact fz
 refine ai hS fun a hS=>?_;obtain⟨i,c,hM⟩:=bd hM;refine kc hS xQ (c7 _ _ hS.dlt b _ c) fun _ w hR a hk hA=>?_;obtain rfl:=hR;have hS:=bY hA;refine ai hS fun a hS=>?_;rcases cd hM with⟨f,hM⟩|⟨f,hM⟩
 ·refine ai hS fun a hS=>?_;obtain⟨j,d,hM⟩:=bd hM;refine kc hS N6 (A9 _ _ hS.dlt b.Kind _ d) fun _ w hR a hk hA=>?_;obtain rfl:=hR;have hS:=bY hA;exact fz
 exact fz
def nL (vrec:ap→ah→Option (ByteArray×ap)):Prop:=∀ (T:Nat→Prop) (W0:World) (hT:∀ k,T k→k<W0.heap.size) (t:ap) (u:ah) (d:Nat) (n:Value) (o:Value) (p:Value) (b:Nat) (f:Array MapEntry) (h:Nat) (c:Nat) (g:Array MapEntry) (e:Nat) (hD:ze T W0 [.box d [n,al t.Base.Revision,o,p,.map (some b),.map (some c)] 160,.obj b (.map f h),.obj c (.map g e)]) (A:aE aC (dT T [.box d [n,al t.Base.Revision,o,p,.map (some b),.map (some c)] 160,.obj b (.map f h),.obj c (.map g e)]) W0 n t.Rules) (B:aE ae (dT T [.box d [n,al t.Base.Revision,o,p,.map (some b),.map (some c)] 160,.obj b (.map f h),.obj c (.map g e)]) W0 o t.Base.Inputs) (C:aE aa (dT T [.box d [n,al t.Base.Revision,o,p,.map (some b),.map (some c)] 160,.obj b (.map f h),.obj c (.map g e)]) W0 p t.Base.Records) (x:bV ac true aY.str false (dT T [.box d [n,al t.Base.Revision,o,p,.map (some b),.map (some c)] 160,.obj b (.map f h),.obj c (.map g e)]) W0 f t.Memo) (z:bV ac true (aY.slice ac) false (dT T [.box d [n,al t.Base.Revision,o,p,.map (some b),.map (some c)] 160,.obj b (.map f h),.obj c (.map g e)]) W0 g t.Seen) (hLv:di (dT T [.box d [n,al t.Base.Revision,o,p,.map (some b),.map (some c)] 160,.obj b (.map f h),.obj c (.map g e)]) W0) (y:ByteArray×ap) (hM:vrec t u=some y),bj aP (MD [.box d [n,al t.Base.Revision,o,p,.map (some b),.map (some c)] 160,.obj b (.map f h),.obj c (.map g e)]) 184 [.pointer (some ⟨d,0,none⟩),.agg #[al u.Kind,aO u.Text]] W0 (fun v w'=>∃ (q:Value) (r:Value) (s:Value) (i:Array MapEntry) (l:Nat) (j:Array MapEntry) (m:Nat),v=aO y.1∧qG W0 w' [.box d [n,al t.Base.Revision,o,p,.map (some b),.map (some c)] 160,.obj b (.map f h),.obj c (.map g e)] [.box d [q,al y.2.Base.Revision,r,s,.map (some b),.map (some c)] 160,.obj b (.map i l),.obj c (.map j m)]∧aE aC (dT T [.box d [q,al y.2.Base.Revision,r,s,.map (some b),.map (some c)] 160,.obj b (.map i l),.obj c (.map j m)]) w' q y.2.Rules∧aE ae (dT T [.box d [q,al y.2.Base.Revision,r,s,.map (some b),.map (some c)] 160,.obj b (.map i l),.obj c (.map j m)]) w' r y.2.Base.Inputs∧aE aa (dT T [.box d [q,al y.2.Base.Revision,r,s,.map (some b),.map (some c)] 160,.obj b (.map i l),.obj c (.map j m)]) w' s y.2.Base.Records∧bV ac true aY.str false (dT T [.box d [q,al y.2.Base.Revision,r,s,.map (some b),.map (some c)] 160,.obj b (.map i l),.obj c (.map j m)]) w' i y.2.Memo∧bV ac true (aY.slice ac) false (dT T [.box d [q,al y.2.Base.Revision,r,s,.map (some b),.map (some c)] 160,.obj b (.map i l),.obj c (.map j m)]) w' j y.2.Seen)
def lc (b:LU) (c:Int) (d:LI) (e:LR) (f:LL) (g:LB):Option ap:=some ((ap.mk b (aj.mk c d e) g f))
def iv (f:LB) (d:LK) (b:Int) (e:LB):Option (Fl (Int×LB) (LB)):=cond (decide (b<(d.length:Int))) ((bu d b).bind fun c=>(some ((cK aL c f).getD bI)).bind fun g=>some (.go (IntKind.i64.wrap (b+1),(eH aL c g e)))) (some (.out e))
def fk (b:LB) (c:LK) (d:LU) (e:Int) (f:LI) (g:LR) (i:LB) (h:LL):Option ap:=(loop (fun s:Int×LB=>iv b c s.1 s.2) (0,i)).bind fun r=>lc d e f g h r
def iu (b:LB) (d:LK) (c:Bool) (e:LU) (f:Int) (g:LI) (h:LR) (i:LB) (j:LL):Option (Fl (LB×LK×Bool×LU×Int×LI×LR×LB×LL) (LB×LK×LU×Int×LI×LR×LB×LL)):=some (.go (b,d,c,e,f,g,h,i,j))
def dY (d:Int) (b:LB) (e:LK) (c:Bool) (f:LU) (g:Int) (h:LI) (i:LR) (j:LB) (k:LL):Option (Fl (LB×LK×Bool×Int×LU×Int×LI×LR×LB×LL) (LB×LK×Bool×LU×Int×LI×LR×LB×LL)):=some (.go (b,e,c,IntKind.i64.wrap (d+1),f,g,h,i,j,k))
def fm (b:Int) (d:LB) (c:LK) (l:Bool) (e:LU) (f:Int) (g:LI) (h:LR) (i:LB) (j:LL) (p:Bool) (k:ByteArray) (q:Int) (r:ByteArray):Option (Fl (LB×LK×Bool×Int×LU×Int×LI×LR×LB×LL) (LB×LK×Bool×LU×Int×LI×LR×LB×LL)):=(bu c b).bind fun m=>(some ((cK aL m d).getD bI)).bind fun o=>cond (!(o.toList==k.toList)) ((bu c b).bind fun n=>dY b (eH aL n k d) c true e f g h i j) (dY b d c l e f g h i j)
def cV (j:Int) (c:LY) (g:LB) (e:LK) (h:Bool) (d:ByteArray) (f:LU) (k:Int) (l:LI) (m:LR) (n:LB) (o:LL):Option (Fl (LB×LK×Bool×LY×LU×Int×LI×LR×LB×LL×Bool×ByteArray×Int×ByteArray) (LB×LK×Bool×LU×Int×LI×LR×LB×LL×Bool×ByteArray×Int×ByteArray)):=gd (bH (c.length+([d]).length)) <| (bu e j).bind fun i=>(ey f i (c++([d]))).bind fun b=>some (.go (g,e,h,(c++([d])),f,k,l,m,n,o,b.Done,b.Value,b.Ask.Kind,b.Ask.Text))
def dZ (e:Int) (c:LY) (g:LU) (h:Int) (i:LI) (j:LR) (k:LB) (l:LL) (m:Int) (n:ByteArray) (b:LB) (f:LK) (d:Bool):Option (Fl (LB×LK×Bool×LY×LU×Int×LI×LR×LB×LL×Bool×ByteArray×Int×ByteArray) (LB×LK×Bool×LU×Int×LI×LR×LB×LL×Bool×ByteArray×Int×ByteArray)):=(some ((cK aL (ah.mk m n) b).getD bI)).bind fun o=>cV e c b f d o g h i j k l
def d5 (vrec:ap→ah→Option (ByteArray×ap)) (o:Int) (d:LB) (g:LK) (n:Bool) (m:LY) (h:LU) (i:Int) (j:LI) (k:LR) (e:LB) (l:LL) (p:Bool) (q:ByteArray) (b:Int) (c:ByteArray):Option (Fl (LB×LK×Bool×LY×LU×Int×LI×LR×LB×LL×Bool×ByteArray×Int×ByteArray) (LB×LK×Bool×LU×Int×LI×LR×LB×LL×Bool×ByteArray×Int×ByteArray)):=cond (!(p)) ((some ((cK aL (ah.mk b c) e).getD bI)).bind fun r=>cond ((cK aL (ah.mk b c) e).isSome) (cV o m d g n r h i j k e l) ((cN (ah.mk b c)).bind fun s=>cond (!(s)) ((vrec (ap.mk h (aj.mk i j k) e l) (ah.mk b c)).bind fun f=>cV o m d g n f.1 f.2.Rules f.2.Base.Revision f.2.Base.Inputs f.2.Base.Records f.2.Memo f.2.Seen) ((some ((cK aL (ah.mk b c) d).getD bI)).bind fun u=>cond (!((cK aL (ah.mk b c) d).isSome)) ((ke (ah.mk b c)).bind fun t=>gd (bH (g.length+([(ah.mk b c)]).length)) <| dZ o m h i j k e l b c (eH aL (ah.mk b c) t d) (g++([(ah.mk b c)])) true) (dZ o m h i j k e l b c d g n)))) (some (.out (d,g,n,h,i,j,k,e,l,p,q,b,c)))
def gx (vrec:ap→ah→Option (ByteArray×ap)) (c:LB) (e:LK) (d:Bool) (b:Int) (f:LU) (g:Int) (h:LI) (i:LR) (j:LB) (k:LL) (l:Bool) (m:ByteArray) (n:Int) (o:ByteArray):Option (Fl (LB×LK×Bool×Int×LU×Int×LI×LR×LB×LL) (LB×LK×Bool×LU×Int×LI×LR×LB×LL)):=(loop (fun s:LB×LK×Bool×LY×LU×Int×LI×LR×LB×LL×Bool×ByteArray×Int×ByteArray=>d5 vrec b s.1 s.2.1 s.2.2.1 s.2.2.2.1 s.2.2.2.2.1 s.2.2.2.2.2.1 s.2.2.2.2.2.2.1 s.2.2.2.2.2.2.2.1 s.2.2.2.2.2.2.2.2.1 s.2.2.2.2.2.2.2.2.2.1 s.2.2.2.2.2.2.2.2.2.2.1 s.2.2.2.2.2.2.2.2.2.2.2.1 s.2.2.2.2.2.2.2.2.2.2.2.2.1 s.2.2.2.2.2.2.2.2.2.2.2.2.2) (c,e,d,([]:List ByteArray),f,g,h,i,j,k,l,m,n,o)).bind fun r=>fm b r.1 r.2.1 r.2.2.1 r.2.2.2.1 r.2.2.2.2.1 r.2.2.2.2.2.1 r.2.2.2.2.2.2.1 r.2.2.2.2.2.2.2.1 r.2.2.2.2.2.2.2.2.1 r.2.2.2.2.2.2.2.2.2.1 r.2.2.2.2.2.2.2.2.2.2.1 r.2.2.2.2.2.2.2.2.2.2.2.1 r.2.2.2.2.2.2.2.2.2.2.2.2
def eO (vrec:ap→ah→Option (ByteArray×ap)) (f:LB) (b:LK) (g:Bool) (d:Int) (e:LU) (h:Int) (i:LI) (j:LR) (k:LB) (l:LL):Option (Fl (LB×LK×Bool×Int×LU×Int×LI×LR×LB×LL) (LB×LK×Bool×LU×Int×LI×LR×LB×LL)):=cond (decide (d<(b.length:Int))) ((bu b d).bind fun m=>(ey e m ([])).bind fun c=>gx vrec f b g d e h i j k l c.Done c.Value c.Ask.Kind c.Ask.Text) (some (.out (f,b,g,e,h,i,j,k,l)))
def eP (vrec:ap→ah→Option (ByteArray×ap)) (b:LB) (c:LK) (j:Bool) (d:LU) (e:Int) (f:LI) (g:LR) (h:LB) (i:LL):Option (Fl (LB×LK×Bool×LU×Int×LI×LR×LB×LL) (LB×LK×LU×Int×LI×LR×LB×LL)):=cond j ((loop (fun s:LB×LK×Bool×Int×LU×Int×LI×LR×LB×LL=>eO vrec s.1 s.2.1 s.2.2.1 s.2.2.2.1 s.2.2.2.2.1 s.2.2.2.2.2.1 s.2.2.2.2.2.2.1 s.2.2.2.2.2.2.2.1 s.2.2.2.2.2.2.2.2.1 s.2.2.2.2.2.2.2.2.2) (b,c,false,0,d,e,f,g,h,i)).bind fun r=>iu r.1 r.2.1 r.2.2.1 r.2.2.2.1 r.2.2.2.2.1 r.2.2.2.2.2.1 r.2.2.2.2.2.2.1 r.2.2.2.2.2.2.2.1 r.2.2.2.2.2.2.2.2) (some (.out (b,c,d,e,f,g,h,i)))
def gy (vrec:ap→ah→Option (ByteArray×ap)) (b:ap) (d:ah) (c:LB):Option ap:=(loop (fun s:LB×LK×Bool×LU×Int×LI×LR×LB×LL=>eP vrec s.1 s.2.1 s.2.2.1 s.2.2.2.1 s.2.2.2.2.1 s.2.2.2.2.2.1 s.2.2.2.2.2.2.1 s.2.2.2.2.2.2.2.1 s.2.2.2.2.2.2.2.2) (c,[d],true,b.Rules,b.Base.Revision,b.Base.Inputs,b.Base.Records,b.Memo,b.Seen)).bind fun r=>fk r.1 r.2.1 r.2.2.1 r.2.2.2.1 r.2.2.2.2.1 r.2.2.2.2.2.1 r.2.2.2.2.2.2.1 r.2.2.2.2.2.2.2
def ig (vrec:ap→ah→Option (ByteArray×ap)) (d:ap) (b:ah):Option ap:=(ke b).bind fun c=>gy vrec d b (eH aL b c ([]:LB))
theorem uV (T:Nat→Prop) (W0:World) (hT:TW T W0) (vrec:ap→ah→Option (ByteArray×ap)) (hvrec:nL vrec) (n:ap) (C:ah) (d:Nat) (z:Value) (A:Value) (B:Value) (b:Nat) (q:Array MapEntry) (r:Nat) (e:Nat) (o:Array MapEntry) (p:Nat) (hD:ze T W0 [xS d z n.Base.Revision A B b e,om b q r,om e o p]) (w0:aE aC (dT T [xS d z n.Base.Revision A B b e,om b q r,om e o p]) W0 z n.Rules) (w1:aE ae (dT T [xS d z n.Base.Revision A B b e,om b q r,om e o p]) W0 A n.Base.Inputs) (w2:aE aa (dT T [xS d z n.Base.Revision A B b e,om b q r,om e o p]) W0 B n.Base.Records) (op:bV ac true aY.str false (dT T [xS d z n.Base.Revision A B b e,om b q r,om e o p]) W0 q n.Memo) (vc:bV ac true (aY.slice ac) false (dT T [xS d z n.Base.Revision A B b e,om b q r,om e o p]) W0 o n.Seen) (hLv:di (dT T [xS d z n.Base.Revision A B b e,om b q r,om e o p]) W0) (y:ap) (hM:ig vrec n C=some y):bj aP (MD [xS d z n.Base.Revision A B b e,om b q r,om e o p]) 202 [pt d 0,.agg (aV C).toArray] W0 (fun v w'=>∃ (d1:Value) (d2:Value) (d3:Value) (a0:Array MapEntry) (av:Nat) (X:Array MapEntry) (ao:Nat),v = .tuple #[]∧qG W0 w' [xS d z n.Base.Revision A B b e,om b q r,om e o p] [xS d d1 y.Base.Revision d2 d3 b e,om b a0 av,om e X ao]∧aE aC (dT T [xS d d1 y.Base.Revision d2 d3 b e,om b a0 av,om e X ao]) w' d1 y.Rules∧aE ae (dT T [xS d d1 y.Base.Revision d2 d3 b e,om b a0 av,om e X ao]) w' d2 y.Base.Inputs∧aE aa (dT T [xS d d1 y.Base.Revision d2 d3 b e,om b a0 av,om e X ao]) w' d3 y.Base.Records∧bV ac true aY.str false (dT T [xS d d1 y.Base.Revision d2 d3 b e,om b a0 av,om e X ao]) w' a0 y.Memo∧bV ac true (aY.slice ac) false (dT T [xS d d1 y.Base.Revision d2 d3 b e,om b a0 av,om e X ao]) w' X y.Seen):=by
 refine lx (c:=_) Tryz.func202 rfl T 135 Tryz.ntmps202 hT rfl hD fun a hS=>?_;replace hS:=(((((hS.fact bC hLv).fS w0).fS w1).fS w2).fM op).fM vc;unfold ig at hM;refine ai hS fun a hS=>?_;refine kb hS fun m4 zs a w hk hS=>?_;refine ai hS fun a hS=>?_;refine aK (J:=fun a w=>∃ (fr:LB) (f:Nat) (e8:AM) (g4:Nat),St W0 (MD [xS d z n.Base.Revision A B b e,om b q r,om e o p]) T 135 [(0,pt d 0),(3,pt m4 0),(4,.map (some f))] [om f e8 g4,om b q r,om e o p,xS d z n.Base.Revision A B b e,.box m4 (aV C) 44] [kC e8 fr,yz e8 g4,aR aC z n.Rules,aR ae A n.Base.Inputs,aR aa B n.Base.Records,kC q n.Memo,sr o n.Seen,bC] a w∧gy vrec n C fr=some y) ?_ ?_
 ·skip;refine dr [(4,.any)] hS fun w hQ hS=>?_;refine gE [1,2] hS fun a hS=>?_;obtain⟨eX,m3,hM⟩:=bd hM;refine eh (i:=0) (j:=3) rfl rfl (by kernel_rfl) rfl rfl ?_ ?_
  ·skip;skip;refine id (zY ac true aY.str false hS rfl fun w3 A2 a w hk hS=>⟨gf (hk),?_⟩);refine ec 3 hS HB (sW _ _ hS.dlt C _ m3) fun _ w hR a hk hA=>?_;obtain rfl:=hR;have hS:=bY hA;refine e1 4 (zX hS qJ cT 0 rfl 1 rfl 0 rfl (c:=(aV C)) (cv:=[aO eX]) (key:=C) (val:=eX) rfl rfl rfl rfl rfl fun q7 q6 w hk hS=>⟨mx rfl hk vQ,?_⟩);refine gE [5,6] hS fun a hS=>?_;refine eD ?_;exact⟨_,_,_,_,hS.mt [0,3,4,2,1] [1,0,8,7,6,5,4,9],hM⟩
  skip;refine id (bg hS HB rfl rfl (sW _ _ hS.dlt C _ m3) fun _ w hR a hk hA=>⟨gf (hk),?_⟩);obtain rfl:=hR;have hS:=bY hA;refine e1 0 (zY ac true aY.str false hS rfl fun w5 B5 a w hk hS=>⟨gf (hk),?_⟩);refine e1 4 (zX hS qJ cT 0 rfl 1 rfl 0 rfl (c:=(aV C)) (cv:=[aO eX]) (key:=C) (val:=eX) rfl rfl rfl rfl rfl fun q7 q6 w hk hS=>⟨mx rfl hk vQ,?_⟩);refine gE [5,6] hS fun a hS=>?_;refine eD ?_;exact⟨_,_,_,_,hS.mt [0,3,4,2,1] [1,0,8,7,6,5,4,9],hM⟩
 rintro a w ⟨fr,f,e8,g4,hS,hM⟩;unfold gy at hM;refine ai hS fun a hS=>?_;refine wl rfl (a8 (ps:=[(0,.tmp 21)]) hS gY gU (zl:=[al 0,aO bI]) (by kernel_rfl) rfl (us:=[(aV C)]) ⟨rfl,trivial⟩ (ws:=(aV C)) rfl rfl rfl rfl fun w8 a w hk hS=>?_);refine ai hS fun a hS=>?_;refine aK (J:=fun a w=>∃ (bb:LB) (b0:LK) (b2:LU) (b3:Int) (b4:LI) (b5:LR) (hw:LB) (b6:LL) (Y:AM) (bs:Nat) (d4:Value) (bt:LV) (hb:AM) (md:Nat) (H:AM) (c0:Nat) (P:Value) (Q:Value) (S:Value),St W0 (MD [xS d z n.Base.Revision A B b e,om b q r,om e o p]) T 135 [(0,pt d 0),(4,.map (some f)),(5,d4)] [om f Y bs,ay d4 bt,om b hb md,om e H c0,xS d P b3 Q S b e] [kC Y bb,yz Y bs,an ac bt b0,aR aC P b2,aR ae Q b4,aR aa S b5,kC hb hw,sr H b6,bC] a w∧fk bb b0 b2 b3 b4 b5 hw b6=some y) ?_ ?_
 ·skip;refine ai hS fun a hS=>?_;replace hS:=hS.lit (R:=ac) (us:=(aV C)) (xs:=[C]) 0 rfl (by decide) (aA.one_ (R:=ac) (x:=C) rfl) rfl rfl;obtain⟨r1,oi,hMo1⟩:=bd hM;refine bF _ (fun s a w=>∃ (bi:LB) (cb:LK) (e2:Bool) (ch:LU) (ck:Int) (cl:LI) (co:LR) (cs:LB) (d0:LL) (ea:AM) (g5:Nat) (k0:Value) (g6:LV) (hc:AM) (ms:Nat) (hd:AM) (n0:Nat) (k1:Value) (k2:Value) (k3:Value),(bi,cb,e2,ch,ck,cl,co,cs,d0)=s∧St W0 (MD [xS d z n.Base.Revision A B b e,om b q r,om e o p]) T 135 [(0,pt d 0),(4,.map (some f)),(5,k0),(6,.bool e2)] [om f ea g5,ay k0 g6,om b hc ms,om e hd n0,xS d k1 ck k2 k3 b e] [kC ea bi,yz ea g5,an ac g6 cb,aR aC k1 ch,aR ae k2 cl,aR aa k3 co,kC hc cs,sr hd d0,bC] a w) oi ⟨_,_,_,_,_,_,_,_,_,_,_,_,_,_,_,_,_,_,_,_,rfl,hS.mt [1,0,2,3,4] [1,2,0,3,4,5,6,7,8]⟩ ?_;rintro s a w f1 ⟨bi,cb,e2,ch,ck,cl,co,cs,d0,ea,g5,k0,g6,hc,ms,hd,n0,k1,k2,k3,rfl,hS⟩ hM hf1;have hM:eP vrec bi cb e2 ch ck cl co cs d0=some f1:=hM;unfold eP at hM;refine aD ?_;refine ai hS fun a hS=>?_;rcases cd hM with⟨r4,hM⟩|⟨r4,hM⟩
  ·refine Ol hS fun a hS=>?_;refine IZ (J:=fun a w=>∃ (f4:LB) (hp:LK) (fs:Bool) (hx:LU) (hy:Int) (hz:LI) (hB:LR) (hC:LB) (hE:LL) (ed:AM) (g7:Nat) (k4:Value) (g8:LV) (hf:AM) (n1:Nat) (hg:AM) (n2:Nat) (kk:Value) (ks:Value) (kt:Value),St W0 (MD [xS d z n.Base.Revision A B b e,om b q r,om e o p]) T 135 [(0,pt d 0),(4,.map (some f)),(5,k4),(6,.bool fs)] [om f ed g7,ay k4 g8,om b hf n1,om e hg n2,xS d kk hy ks kt b e] [kC ed f4,yz ed g7,an ac g8 hp,aR aC kk hx,aR ae ks hz,aR aa kt hB,kC hf hC,sr hg hE,bC] a w∧iu f4 hp fs hx hy hz hB hC hE=some f1) ?_ ?_
   ·skip;refine ai hS fun a hS=>?_;obtain⟨r2,vs,hMo2⟩:=bd hM;refine bF _ (fun s a w=>∃ (U:LB) (a1:LK) (V:Bool) (t:Int) (G:LU) (a2:Int) (a3:LI) (a4:LR) (a5:LB) (a9:LL) (Z:AM) (c1:Nat) (d6:Value) (c2:LV) (c4:AM) (gb:Nat) (c5:AM) (gi:Nat) (da:Value) (dc:Value) (dk:Value),(U,a1,V,t,G,a2,a3,a4,a5,a9)=s∧St W0 (MD [xS d z n.Base.Revision A B b e,om b q r,om e o p]) T 135 [(0,pt d 0),(4,.map (some f)),(5,d6),(6,.bool V),(7,al t)] [om f Z c1,ay d6 c2,om b c4 gb,om e c5 gi,xS d da a2 dc dk b e] [kC Z U,yz Z c1,an ac c2 a1,aR aC da G,aR ae dc a3,aR aa dk a4,kC c4 a5,sr c5 a9,bC] a w) vs ⟨_,_,_,_,_,_,_,_,_,_,_,_,_,_,_,_,_,_,_,_,_,rfl,hS.mt [0,1,2,3,4] [0,1,2,3,4,5,6,7,8]⟩ ?_;rintro s a w f2 ⟨U,a1,V,t,G,a2,a3,a4,a5,a9,Z,c1,d6,c2,c4,gb,c5,gi,da,dc,dk,rfl,hS⟩ hM hf2;have hM:eO vrec U a1 V t G a2 a3 a4 a5 a9=some f2:=hM;unfold eO at hM;refine aD ?_;refine ai hS fun a hS=>?_;rcases cd hM with⟨ra,hM⟩|⟨ra,hM⟩
    ·refine ai hS fun a hS=>?_;refine aK (J:=fun a w=>∃ (f6:LB) (hq:LK) (g0:Bool) (hF:LU) (hG:Int) (hH:LI) (hI:LR) (hJ:LB) (hK:LL) (eg:AM) (gp:Nat) (kv:Value) (gs:LV) (hh:AM) (n5:Nat) (hi:AM) (n6:Nat) (kx:Value) (l0:Value) (l1:Value),St W0 (MD [xS d z n.Base.Revision A B b e,om b q r,om e o p]) T 135 [(0,pt d 0),(4,.map (some f)),(5,kv),(6,.bool g0),(7,al t)] [om f eg gp,ay kv gs,om b hh n5,om e hi n6,xS d kx hG l0 l1 b e] [kC eg f6,yz eg gp,an ac gs hq,aR aC kx hF,aR ae l0 hH,aR aa l1 hI,kC hh hJ,sr hi hK,bC] a w∧dY t f6 hq g0 hF hG hH hI hJ hK=some f2) ?_ ?_
     ·skip;refine ai hS fun a hS=>?_;refine aK (J:=fun a w=>∃ (ih:Bool) (ii:ByteArray) (jb:Int) (jc:ByteArray) (u:Nat),St W0 (MD [xS d z n.Base.Revision A B b e,om b q r,om e o p]) T 135 [(0,pt d 0),(4,.map (some f)),(5,d6),(6,.bool V),(7,al t),(8,.slice none 0 0),(9,pt u 0)] [om f Z c1,ay d6 c2,om b c4 gb,om e c5 gi,xS d da a2 dc dk b e,.box u [.bool ih,aO ii,al jb,aO jc] 190] [kC Z U,yz Z c1,an ac c2 a1,aR aC da G,aR ae dc a3,aR aa dk a4,kC c4 a5,sr c5 a9,bC] a w∧gx vrec U a1 V t G a2 a3 a4 a5 a9 ih ii jb jc=some f2) ?_ ?_
      ·skip;obtain⟨N285,ok⟩:∃ N,N=w.heap.size:=⟨_,rfl⟩;replace hS:=hS.fact (Gi N285) (xF ok);refine dr [(11,.new N285)] hS fun w hQ hS=>?_;refine gE [0,1,2,3,4,5] hS fun a hS=>?_;obtain⟨e5,p3,hM⟩:=bd hM;obtain⟨q0,v0,DD,wr,rd,rg,rl,rm⟩:=mD (R:=ac) hS kB dR 1 rfl 3 rfl p3;obtain rfl:=rd;refine dy 6 (v:=pt q0 v0) rfl (by kernel_rfl) (by kernel_rfl) (by kernel_rfl) rfl hQ hS (rm rfl rfl) rfl rfl rfl fun a hS=>?_;refine dy (l:=[]) 7 (v:=.agg (aV e5).toArray) rfl (by kernel_rfl) (by kernel_rfl) (by kernel_rfl) (by kernel_rfl) hQ hS (ce (k:=0) hS dR 1 rfl rg rl rfl bP (us:=(aV e5)) rfl rfl (fun h=>by cases h)) rfl rfl rfl fun a hS=>?_;refine gE [8] hS fun a hS=>?_;replace hS:=hS.fact (aR aY.str (.slice none 0 0) []) (aE.nil_ _ _ _);obtain⟨HD,m2,hM⟩:=bd hM;refine eh (i:=9) (j:=10) rfl rfl (by kernel_rfl) rfl rfl ?_ ?_
       ·skip;skip;refine id (bg hS wW rfl rfl (gz _ _ hS.dlt (hS.get 10 rfl) G e5 ([]) _ _ (hS.get 5 rfl) (hS.get 0 rfl) _ m2) fun _ w hR a hk hA=>⟨gf (hk),?_⟩);obtain rfl:=hR;have hS:=bY hA;have rr:=(hS.get 1 rfl:N285≤w.heap.size);refine e1 10 (dd hS oY rfl fun q1 rs a w hk hS=>⟨gf (hk),?_⟩);refine dt 11 (.blk (some q1)) _ (by kernel_rfl) (n4 (fB rr rs)) ?_;refine es 11 hS fun w hS=>?_;refine eD ?_;exact⟨_,_,_,_,_,hS.mt [1,2,3,4,5,0] [2,3,4,5,6,7,8,9,10],hM⟩
       skip;have rt:=(hS.get 1 rfl:N285≤w.heap.size);refine id (dd hS oY rfl fun q2 rv a w hk hS=>⟨gf (hk),?_⟩);refine dt 11 (.blk (some q2)) _ (by kernel_rfl) (n4 (fB rt rv)) ?_;refine ec 9 hS wW (gz _ _ hS.dlt (hS.get 10 rfl) G e5 ([]) _ _ (hS.get 5 rfl) (hS.get 0 rfl) _ m2) fun _ w hR a hk hA=>?_;obtain rfl:=hR;have hS:=bY hA;refine es 11 hS fun w hS=>?_;refine eD ?_;exact⟨_,_,_,_,_,hS.mt [1,2,3,4,5,0] [2,3,4,5,6,7,8,9,10],hM⟩
      rintro a w ⟨ih,ii,jb,jc,u,hS,hM⟩;unfold gx at hM;refine aK (J:=fun a w=>∃ (fd:LB) (hs:LK) (g1:Bool) (hN:LU) (hP:Int) (hV:LI) (hW:LR) (hX:LB) (hY:LL) (i5:Bool) (b9:ByteArray) (i9:Int) (ib:ByteArray) (ek:AM) (gu:Nat) (l2:Value) (h0:LV) (hj:AM) (nd:Nat) (hl:AM) (ng:Nat) (la:Value) (lb:Value) (le:Value),St W0 (MD [xS d z n.Base.Revision A B b e,om b q r,om e o p]) T 135 [(0,pt d 0),(4,.map (some f)),(5,l2),(6,.bool g1),(7,al t),(9,pt u 0)] [om f ek gu,ay l2 h0,om b hj nd,om e hl ng,xS d la hP lb le b e,.box u [.bool i5,aO b9,al i9,aO ib] 190] [kC ek fd,yz ek gu,an ac h0 hs,aR aC la hN,aR ae lb hV,aR aa le hW,kC hj hX,sr hl hY,bC] a w∧fm t fd hs g1 hN hP hV hW hX hY i5 b9 i9 ib=some f2) ?_ ?_
      ·skip;refine ai hS fun a hS=>?_;replace hS:=hS.nilRow aY.str 9 (by decide);obtain⟨r3,vx,uv⟩:=bd hM;refine bF _ (fun s a w=>∃ (ak:LB) (b1:LK) (bl:Bool) (D:LY) (I:LU) (K:Int) (L:LI) (M:LR) (F:LB) (O:LL) (ab:Bool) (af:ByteArray) (g:Int) (m:ByteArray) (el:AM) (h1:Nat) (ll:Value) (h2:LV) (ag:Value) (W:LV) (c9:AM) (h3:Nat) (ca:AM) (h4:Nat) (dl:Value) (dn:Value) (ds:Value),(ak,b1,bl,D,I,K,L,M,F,O,ab,af,g,m)=s∧St W0 (MD [xS d z n.Base.Revision A B b e,om b q r,om e o p]) T 135 [(0,pt d 0),(4,.map (some f)),(5,ll),(6,.bool bl),(7,al t),(8,ag),(9,pt u 0)] [om f el h1,ay ll h2,.own ag 9 aY.str.size W,om b c9 h3,om e ca h4,xS d dl K dn ds b e,.box u [.bool ab,aO af,al g,aO m] 190] [kC el ak,yz el h1,an ac h2 b1,an aY.str W D,aR aC dl I,aR ae dn L,aR aa ds M,kC c9 F,sr ca O,bC] a w) vx ⟨_,_,_,_,_,_,_,_,_,_,_,_,_,_,_,_,_,_,_,_,_,_,_,_,_,_,_,rfl,hS.mt [1,2,0,3,4,5,6] [1,2,3,0,4,5,6,7,8,9]⟩ ?_;rintro s a w f3 ⟨ak,b1,bl,D,I,K,L,M,F,O,ab,af,g,m,el,h1,ll,h2,ag,W,c9,h3,ca,h4,dl,dn,ds,rfl,hS⟩ hM vo;have hM:d5 vrec t ak b1 bl D I K L M F O ab af g m=some f3:=hM;unfold d5 at hM;refine aD ?_;refine ai hS fun a hS=>?_;rcases cd hM with⟨s0,hM⟩|⟨s0,hM⟩
       ·refine ai hS fun a hS=>?_;refine aD ?_;refine dr [] hS fun w hQ hS=>?_;refine gE [0,1,2,3,4,5] hS fun a hS=>?_;obtain⟨v9,pe,hM⟩:=bd hM;obtain⟨x0,s1,s2⟩:=fh hS qJ cT 3 rfl 7 rfl (c:=[al g,aO m]) (key:=(ah.mk g m)) rfl Ej (zc:=[aO bI]) rfl rfl pe;obtain rfl:=s1;refine dy (l:=[]) 6 (v:=.tuple #[aO v9,.bool ((cK aL (ah.mk g m) F).isSome)]) rfl (by kernel_rfl) (by kernel_rfl) (by kernel_rfl) (by kernel_rfl) hQ hS (s2 rfl rfl bP) rfl rfl rfl fun a hS=>?_;refine gE [7,8,9,10,11] hS fun a hS=>?_;refine eD ?_;refine ai hS fun a hS=>?_;refine aK (J:=fun a w=>∃ (fl:LB) (ht:LK) (g2:Bool) (E:ByteArray) (eT:LU) (i0:Int) (i1:LI) (i2:LR) (i3:LB) (i4:LL) (em:AM) (h5:Nat) (ls:Value) (h6:LV) (hm:AM) (nl:Nat) (hn:AM) (nm:Nat) (lt:Value) (lv:Value) (m0:Value),St W0 (MD [xS d z n.Base.Revision A B b e,om b q r,om e o p]) T 135 [(0,pt d 0),(4,.map (some f)),(5,ls),(6,.bool g2),(7,al t),(8,ag),(9,pt u 0),(10,aO E)] [om f em h5,ay ls h6,.own ag 9 aY.str.size W,om b hm nl,om e hn nm,xS d lt i0 lv m0 b e,.box u [.bool ab,aO af,al g,aO m] 190] [kC em fl,yz em h5,an ac h6 ht,an aY.str W D,aR aC lt eT,aR ae lv i1,aR aa m0 i2,kC hm i3,sr hn i4,bC] a w∧cV t D fl ht g2 E eT i0 i1 i2 i3 i4=some f3) ?_ ?_
        ·skip;refine ai hS fun a hS=>?_;rcases cd hM with⟨sb,hM⟩|⟨sb,hM⟩
         ·exact fz
         refine ai hS fun a hS=>?_;obtain⟨Hg,pf,hM⟩:=bd hM;refine kc hS xQ (c7 _ _ hS.dlt (ah.mk g m) _ pf) fun _ w hR a hk hA=>?_;obtain rfl:=hR;have hS:=bY hA;refine ai hS fun a hS=>?_;rcases cd hM with⟨sc,hM⟩|⟨sc,hM⟩
         ·refine ai hS fun a hS=>?_;obtain⟨Hv,pk,hM⟩:=bd hM;replace hS:=hS.re [5,3,4] [0,1,2,6];refine wl rfl (de hS Fv rfl rfl (hvrec _ _ hS.dltD (ap.mk I (aj.mk K L M) F O) (ah.mk g m) _ _ _ _ _ _ _ _ _ _ hS.dok (hS.getD 4 rfl) (hS.getD 5 rfl) (hS.getD 6 rfl) (hS.getD 7 rfl) (hS.getD 8 rfl) (hS.getD 9 rfl) _ pk) fun _ w hR a hk hA=>?_);obtain⟨HT,HX,HY,z1,x1,z2,x2,he,sk,o2,o3,of,ny,o1⟩:=hR;obtain rfl:=he.symm;have hS:=hA _ sk;replace hS:=((((hS.fS (o2.sub (aB _))).fS (o3.sub (aB _))).fS (of.sub (aB _))).fM (ny.keep (au _ _) (aB _))).fM (o1.keep (au _ _) (aB _));exact fz
         refine ai hS fun a hS=>?_;refine aK (J:=fun a w=>∃ (fn:LB) (hu:LK) (g3:Bool) (eq:AM) (h7:Nat) (m1:Value) (h8:LV),St W0 (MD [xS d z n.Base.Revision A B b e,om b q r,om e o p]) T 135 [(0,pt d 0),(4,.map (some f)),(5,m1),(6,.bool g3),(7,al t),(8,ag),(9,pt u 0)] [om f eq h7,ay m1 h8,.own ag 9 aY.str.size W,om b c9 h3,om e ca h4,xS d dl K dn ds b e,.box u [.bool ab,aO af,al g,aO m] 190] [kC eq fn,yz eq h7,an ac h8 hu,an aY.str W D,aR aC dl I,aR ae dn L,aR aa ds M,kC c9 F,sr ca O,bC] a w∧dZ t D I K L M F O g m fn hu g3=some f3) ?_ ?_
         ·skip;refine ai hS fun a hS=>?_;obtain⟨vb,pl,hM⟩:=bd hM;obtain⟨x3,sn,sp⟩:=fh hS qJ cT 0 rfl 0 rfl (c:=[al g,aO m]) (key:=(ah.mk g m)) rfl Ej (zc:=[aO bI]) rfl rfl pl;obtain rfl:=sn;refine wl rfl (ky (v:=.tuple #[aO vb,.bool ((cK aL (ah.mk g m) ak).isSome)]) hS (sp rfl rfl id) rfl rfl fun a hS=>?_);refine ai hS fun a hS=>?_;rcases cd hM with⟨sq,hM⟩|⟨sq,hM⟩
          ·refine ai hS fun a hS=>?_;refine aD ?_;refine dr [(6,.blk (some f))] hS fun w hQ hS=>?_;refine gE [0,1,2,3,4] hS fun a hS=>?_;obtain⟨oj,pw,hM⟩:=bd hM;refine ec 5 hS HB (sW _ _ hS.dlt (ah.mk g m) _ pw) fun _ w hR a hk hA=>?_;obtain rfl:=hR;have hS:=bY hA;refine e1 6 (Co hS qJ cT 0 rfl 0 rfl 1 rfl (c:=[al g,aO m]) (cv:=[aO oj]) (key:=(ah.mk g m)) (val:=oj) rfl rfl rfl rfl rfl fun z3 x4 w hk hS=>⟨mx rfl hk kG,?_⟩);refine eD ?_;refine ai hS fun a hS=>?_;refine wl rfl (a8 (ps:=[(0,.tmp 70)]) hS gY gU (zl:=[al 0,aO bI]) (by kernel_rfl) rfl (us:=[[al g,aO m]]) ⟨rfl,trivial⟩ (ws:=[al g,aO m]) rfl rfl rfl rfl fun wd a w hk hS=>?_);replace hS:=(hS.lit (R:=ac) (us:=[al g,aO m]) (xs:=[(ah.mk g m)]) 0 rfl (by decide) (aA.one_ (R:=ac) (x:=(ah.mk g m)) rfl) rfl rfl).freeze (R:=ac) 0 rfl 0 rfl;obtain⟨st,hM⟩:=be hM;refine wl rfl (bM (R:=ac) (xs:=b1) (ys:=[(ah.mk g m)]) hS gY (by decide) (by decide) rfl rfl 1 rfl 6 rfl 0 rfl st rfl fun Iq x8 a w hk hS=>?_);exact fz
          exact fz
         rintro a w ⟨fn,hu,g3,eq,h7,m1,h8,hS,hM⟩;unfold dZ at hM;refine ai hS fun a hS=>?_;obtain⟨v8,p7,hM⟩:=bd hM;obtain⟨xc,sy,sz⟩:=fh hS qJ cT 0 rfl 0 rfl (c:=[al g,aO m]) (key:=(ah.mk g m)) rfl Ej (zc:=[aO bI]) rfl rfl p7;obtain rfl:=sy;refine wl rfl (ky (v:=aO v8) hS (sz rfl rfl id) rfl rfl fun a hS=>?_);exact fz
        rintro a w ⟨fl,ht,g2,E,eT,i0,i1,i2,i3,i4,em,h5,ls,h6,hm,nl,hn,nm,lt,lv,m0,hS,hM⟩;unfold cV at hM;refine ai hS fun a hS=>?_;refine wl rfl (a8 (ps:=[(0,.tmp 89)]) hS xV Ng (zl:=[aO bI]) (by kernel_rfl) rfl (us:=[[aO E]]) ⟨rfl,trivial⟩ (ws:=[aO E]) rfl rfl rfl rfl fun wf a w hk hS=>?_);replace hS:=(hS.lit (R:=aY.str) (us:=[aO E]) (xs:=[E]) 0 rfl (by decide) (aA.one_ (R:=aY.str) (x:=E) rfl) rfl rfl).freeze (R:=aY.str) 0 rfl 0 rfl;obtain⟨sT,hM⟩:=be hM;refine wl rfl (bM (R:=aY.str) (xs:=D) (ys:=[E]) hS xV (by decide) (by decide) rfl rfl 2 rfl 5 rfl 0 rfl sT rfl fun IY xt a w hk hS=>?_);refine ai hS fun a hS=>?_;refine dr [(10,.blk (some u))] hS fun w hQ hS=>?_;refine gE [0,1,2,3,4,5] hS fun a hS=>?_;obtain⟨ha,p2,hM⟩:=bd hM;obtain⟨q3,v1,DL,xx,t0,t1,t2,t3⟩:=mD (R:=ac) hS kB dR 1 rfl 5 rfl p2;obtain rfl:=t0;refine dy 6 (v:=pt q3 v1) rfl (by kernel_rfl) (by kernel_rfl) (by kernel_rfl) rfl hQ hS (t3 rfl rfl) rfl rfl rfl fun a hS=>?_;refine dy (l:=[]) 7 (v:=.agg (aV ha).toArray) rfl (by kernel_rfl) (by kernel_rfl) (by kernel_rfl) (by kernel_rfl) hQ hS (ce (k:=0) hS dR 1 rfl t1 t2 rfl bP (us:=(aV ha)) rfl rfl (fun h=>by cases h)) rfl rfl rfl fun a hS=>?_;refine gE [8] hS fun a hS=>?_;have hL:=hS;replace hL:=hL.freeze (R:=aY.str) 2 rfl 0 rfl;obtain⟨Hc,p6,hM⟩:=bd hM;refine ec 9 hS wW (gz _ _ hL.dlt (hL.get 13 rfl) eT ha (D++([E])) _ _ (hL.get 8 rfl) (hL.get 0 rfl) _ p6) fun _ w hR a hk hA=>?_;obtain rfl:=hR;have hS:=bY hA;refine es 10 hS fun w hS=>?_;refine eD ?_;exact⟨_,(fq hM).symm,_,_,_,_,_,_,_,_,_,_,_,_,_,_,_,_,_,_,_,_,_,_,_,_,_,_,_,rfl,hS.mt [0,1,2,3,4,5,6] [3,4,5,0,7,8,9,10,11,12]⟩
       refine ai hS fun a hS=>?_;cases hM
       have hr:=vo _ rfl;subst hr;have hM:fm t ak b1 bl I K L M F O ab af g m=some f2:=uv;exact⟨_,_,_,_,_,_,_,_,_,_,_,_,_,_,_,_,_,_,_,_,_,_,_,_,hS.mt [0,1,3,4,5,6] [0,1,2,4,5,6,7,8,9],hM⟩
      rintro a w ⟨fd,hs,g1,hN,hP,hV,hW,hX,hY,i5,b9,i9,ib,ek,gu,l2,h0,hj,nd,hl,ng,la,lb,le,hS,hM⟩;unfold fm at hM;refine aD ?_;refine dr [] hS fun w hQ hS=>?_;refine gE [0,1,2] hS fun a hS=>?_;obtain⟨e3,p0,hM⟩:=bd hM;obtain⟨q4,v5,FI,y1,t4,t5,t6,t7⟩:=mD (R:=ac) hS kB dR 1 rfl 2 rfl p0;obtain rfl:=t4;refine dy 3 (v:=pt q4 v5) rfl (by kernel_rfl) (by kernel_rfl) (by kernel_rfl) rfl hQ hS (t7 rfl rfl) rfl rfl rfl fun a hS=>?_;refine dy (l:=[]) 4 (v:=.agg (aV e3).toArray) rfl (by kernel_rfl) (by kernel_rfl) (by kernel_rfl) (by kernel_rfl) hQ hS (ce (k:=0) hS dR 1 rfl t5 t6 rfl bP (us:=(aV e3)) rfl rfl (fun h=>by cases h)) rfl rfl rfl fun a hS=>?_;obtain⟨v7,p5,hM⟩:=bd hM;obtain⟨y2,t9,te⟩:=fh hS qJ cT 0 rfl 0 rfl (c:=(aV e3)) (key:=e3) rfl Ej (zc:=[aO bI]) rfl rfl p5;obtain rfl:=t9;refine dy (l:=[]) 5 (v:=aO v7) rfl (by kernel_rfl) (by kernel_rfl) (by kernel_rfl) (by kernel_rfl) hQ hS (te rfl rfl bP) rfl rfl rfl fun a hS=>?_;refine gE [6,7,8] hS fun a hS=>?_;refine eD ?_;refine ai hS fun a hS=>?_;rcases cd hM with⟨th,hM⟩|⟨th,hM⟩
      ·refine ai hS fun a hS=>?_;refine dr [(7,.blk (some f)),(9,.blk (some f))] hS fun w hQ hS=>?_;refine gE [0,1,2] hS fun a hS=>?_;obtain⟨e4,p1,hM⟩:=bd hM;obtain⟨q5,v6,G1,y3,tk,tl,tm,ts⟩:=mD (R:=ac) hS kB dR 1 rfl 2 rfl p1;obtain rfl:=tk;refine dy 3 (v:=pt q5 v6) rfl (by kernel_rfl) (by kernel_rfl) (by kernel_rfl) rfl hQ hS (ts rfl rfl) rfl rfl rfl fun a hS=>?_;refine dy (l:=[]) 4 (v:=.agg (aV e4).toArray) rfl (by kernel_rfl) (by kernel_rfl) (by kernel_rfl) (by kernel_rfl) hQ hS (ce (k:=0) hS dR 1 rfl tl tm rfl bP (us:=(aV e4)) rfl rfl (fun h=>by cases h)) rfl rfl rfl fun a hS=>?_;refine gE [5] hS fun a hS=>?_;refine dy (l:=[.blk (some f)]) 6 (v:=aO b9) rfl (by kernel_rfl) (by kernel_rfl) (by kernel_rfl) (by kernel_rfl) hQ hS (eU hS rfl Ji 5 rfl (jZ hS 5 rfl rfl 0 rfl rfl (by decide) bP) (us:=[aO b9]) rfl rfl (fun _=>rfl)) rfl rfl rfl fun a hS=>?_;refine e1 7 (GK hS rfl qJ cT 0 rfl 0 rfl 1 rfl (c:=(aV e4)) (key:=e4) rfl Ej (zc:=[aO bI]) rfl rfl rfl rfl fun K2 z4 yv Hb a w hk hS=>⟨mx rfl hk kG,?_⟩);refine gE [8] hS fun a hS=>?_;refine e1 9 (GL (val:=b9) hS 0 rfl 0 rfl rfl rfl rfl rfl fun z5 w hk hS=>⟨mx rfl hk kG,?_⟩);refine gE [10] hS fun a hS=>?_;refine eD ?_;exact⟨_,_,_,_,_,_,_,_,_,_,_,_,_,_,_,_,_,_,_,_,hS.mt [0,1,2,3,4] [1,0,5,6,7,8,9,10,11],hM⟩
      exact fz
     rintro a w ⟨f6,hq,g0,hF,hG,hH,hI,hJ,hK,eg,gp,kv,gs,hh,n5,hi,n6,kx,l0,l1,hS,hM⟩;unfold dY at hM;exact fz
    refine ai hS fun a hS=>?_;cases hM
    have hr:=hf2 _ rfl;subst hr;have hM:iu U a1 V G a2 a3 a4 a5 a9=some f1:=hMo2;exact⟨_,_,_,_,_,_,_,_,_,_,_,_,_,_,_,_,_,_,_,_,hS.mt [0,1,2,3,4] [0,1,2,3,4,5,6,7,8],hM⟩
   rintro a w ⟨f4,hp,fs,hx,hy,hz,hB,hC,hE,ed,g7,k4,g8,hf,n1,hg,n2,kk,ks,kt,hS,hM⟩;unfold iu at hM;exact⟨_,(fq hM).symm,_,_,_,_,_,_,_,_,_,_,_,_,_,_,_,_,_,_,_,_,rfl,hS.mt [0,1,2,3,4] [0,1,2,3,4,5,6,7,8]⟩
  refine ai hS fun a hS=>?_;cases hM
  have hr:=hf1 _ rfl;subst hr;have hM:fk bi cb ch ck cl co cs d0=some y:=hMo1;exact⟨_,_,_,_,_,_,_,_,_,_,_,_,_,_,_,_,_,_,_,hS.mt [0,1,2,3,4] [0,1,2,3,4,5,6,7,8],hM⟩
 rintro a w ⟨bb,b0,b2,b3,b4,b5,hw,b6,Y,bs,d4,bt,hb,md,H,c0,P,Q,S,hS,hM⟩;unfold fk at hM;refine iY ?_;refine Ol hS fun a hS=>?_;refine IZ (J:=fun a w=>∃ (hv:LB) (er:AM) (h9:Nat),St W0 (MD [xS d z n.Base.Revision A B b e,om b q r,om e o p]) T 135 [] [om b er h9,om e H c0,xS d P b3 Q S b e] [aR aC P b2,aR ae Q b4,aR aa S b5,kC er hv,sr H b6,bC] a w∧lc b2 b3 b4 b5 b6 hv=some y) ?_ ?_
 ·skip;refine ai hS fun a hS=>?_;obtain⟨r1,oi,hMo1⟩:=bd hM;refine bF _ (fun s a w=>∃ (et:Int) (ex:LB) (ho:AM) (no:Nat),(et,ex)=s∧St W0 (MD [xS d z n.Base.Revision A B b e,om b q r,om e o p]) T 135 [(0,pt d 0),(4,.map (some f)),(120,d4),(121,al (b0.length:Int)),(122,al et)] [om f Y bs,ay d4 bt,om b ho no,om e H c0,xS d P b3 Q S b e] [kC Y bb,yz Y bs,an ac bt b0,aR aC P b2,aR ae Q b4,aR aa S b5,kC ho ex,sr H b6,bC] a w) oi ⟨_,_,_,_,rfl,hS.mt [0,1,2,3,4] [0,1,2,3,4,5,6,7,8]⟩ ?_;rintro s a w f1 ⟨et,ex,ho,no,rfl,hS⟩ hM hf1;have hM:iv bb b0 et ex=some f1:=hM;unfold iv at hM;refine ai hS fun a hS=>?_;refine aD ?_;rcases cd hM with⟨tt,hM⟩|⟨tt,hM⟩
  ·refine ai hS fun a hS=>?_;refine aD ?_;refine ai hS fun a hS=>?_;obtain⟨c3,os,hM⟩:=bd hM;refine wl rfl (dj (R:=ac) hS kB dR rfl rfl 1 rfl 2 rfl os rfl fun wk D1 Go yy ty u1 u2 a hS=>?_);obtain rfl:=ty;refine qy hS (ce (k:=0) hS dR 1 rfl u1 u2 rfl id (us:=(aV c3)) rfl rfl (fun h=>by cases h)) fun a hS=>?_;refine ka hS gU fun wp D0 a w hk hS=>?_;refine go hS fun a w hS=>?_;refine dr [(8,.blk (some b))] hS fun w hQ hS=>?_;refine gE [0,1,2,3,4,5,6] hS fun a hS=>?_;obtain⟨js,p4,hM⟩:=bd hM;obtain⟨yJ,u8,up⟩:=fh hS qJ cT 1 rfl 0 rfl (c:=(aV c3)) (key:=c3) rfl Ej (zc:=[aO bI]) rfl rfl p4;obtain rfl:=u8;refine dy (l:=[]) 7 (v:=aO js) rfl (by kernel_rfl) (by kernel_rfl) (by kernel_rfl) (by kernel_rfl) hQ hS (up rfl rfl bP) rfl rfl rfl fun a hS=>?_;refine e1 8 (x5 hS qJ cT 3 rfl 6 rfl (c:=(aV c3)) (cv:=[aO js]) (key:=c3) (val:=js) rfl rfl rfl rfl rfl fun z9 z0 w hk hS=>⟨mx rfl hk kG,?_⟩);refine eD ?_;exact fz
  exact fz
 rintro a w ⟨hv,er,h9,hS,hM⟩;unfold lc at hM;refine L8 ?_;cases hM
 refine aI hS Tryz.results202 aH ?_;have hZ:=hS.sl [2,0,1] [0,1,2,3,4];exact⟨P,Q,S,er,h9,H,c0,rfl,hZ.dnew,(hZ.get 0 rfl),(hZ.get 1 rfl),(hZ.get 2 rfl),(hZ.get 3 rfl),(hZ.get 4 rfl)⟩
def fj (vrec:ap→ah→Option (ByteArray×ap)) (n:ah) (c:LY) (d:LU) (e:Int) (f:LI) (g:LR) (h:LB) (i:LL) (k:Bool) (j:ByteArray) (l:Int) (m:ByteArray):Option (Fl (LY×LU×Int×LI×LR×LB×LL) (ByteArray×ap)):=cond k (some (.out (j,(ap.mk d (aj.mk e f g) (eH aL n j h) i)))) ((vrec (ap.mk d (aj.mk e f g) h i) (ah.mk l m)).bind fun b=>gd (bH (c.length+([b.1]).length)) <| some (.go ((c++([b.1])),b.2.Rules,b.2.Base.Revision,b.2.Base.Inputs,b.2.Base.Records,b.2.Memo,b.2.Seen)))
def it (vrec:ap→ah→Option (ByteArray×ap)) (e:ah) (c:LY) (d:LU) (f:Int) (g:LI) (h:LR) (i:LB) (j:LL):Option (Fl (LY×LU×Int×LI×LR×LB×LL) (ByteArray×ap)):=(ey d e c).bind fun b=>fj vrec e c d f g h i j b.Done b.Value b.Ask.Kind b.Ask.Text
def ew (vrec:ap→ah→Option (ByteArray×ap)) (b:ap) (c:ah):Option (ByteArray×ap):=(cr c).bind fun e=>cond e ((nU b.Base c).bind fun f=>some ((f,b))) ((some ((cK aL c b.Memo).getD bI)).bind fun g=>cond ((cK aL c b.Memo).isSome) (some ((g,b))) ((cN c).bind fun h=>cond h ((ig vrec b c).bind fun d=>(some ((cK aL c d.Memo).getD bI)).bind fun i=>some ((i,d))) ((loop (fun s:LY×LU×Int×LI×LR×LB×LL=>it vrec c s.1 s.2.1 s.2.2.1 s.2.2.2.1 s.2.2.2.2.1 s.2.2.2.2.2.1 s.2.2.2.2.2.2) (([]:List ByteArray),b.Rules,b.Base.Revision,b.Base.Inputs,b.Base.Records,b.Memo,b.Seen)).bind fun y=>some (y))))
theorem uU (T:Nat→Prop) (W0:World) (hT:TW T W0) (vrec:ap→ah→Option (ByteArray×ap)) (hvrec:nL vrec) (f:ap) (g:ah) (b:Nat) (C:Value) (D:Value) (E:Value) (d:Nat) (k:Array MapEntry) (n:Nat) (e:Nat) (m:Array MapEntry) (h:Nat) (hD:ze T W0 [xS b C f.Base.Revision D E d e,om d k n,om e m h]) (e8:aE aC (dT T [xS b C f.Base.Revision D E d e,om d k n,om e m h]) W0 C f.Rules) (ea:aE ae (dT T [xS b C f.Base.Revision D E d e,om d k n,om e m h]) W0 D f.Base.Inputs) (ed:aE aa (dT T [xS b C f.Base.Revision D E d e,om d k n,om e m h]) W0 E f.Base.Records) (e3:bV ac true aY.str false (dT T [xS b C f.Base.Revision D E d e,om d k n,om e m h]) W0 k f.Memo) (e4:bV ac true (aY.slice ac) false (dT T [xS b C f.Base.Revision D E d e,om d k n,om e m h]) W0 m f.Seen) (hLv:di (dT T [xS b C f.Base.Revision D E d e,om d k n,om e m h]) W0) (y:ByteArray×ap) (hM:ew vrec f g=some y):bj aP (MD [xS b C f.Base.Revision D E d e,om d k n,om e m h]) 184 [pt b 0,.agg (aV g).toArray] W0 (fun v w'=>∃ (S:Value) (U:Value) (V:Value) (q:Array MapEntry) (F:Nat) (r:Array MapEntry) (G:Nat),v=aO y.1∧qG W0 w' [xS b C f.Base.Revision D E d e,om d k n,om e m h] [xS b S y.2.Base.Revision U V d e,om d q F,om e r G]∧aE aC (dT T [xS b S y.2.Base.Revision U V d e,om d q F,om e r G]) w' S y.2.Rules∧aE ae (dT T [xS b S y.2.Base.Revision U V d e,om d q F,om e r G]) w' U y.2.Base.Inputs∧aE aa (dT T [xS b S y.2.Base.Revision U V d e,om d q F,om e r G]) w' V y.2.Base.Records∧bV ac true aY.str false (dT T [xS b S y.2.Base.Revision U V d e,om d q F,om e r G]) w' q y.2.Memo∧bV ac true (aY.slice ac) false (dT T [xS b S y.2.Base.Revision U V d e,om d q F,om e r G]) w' r y.2.Seen):=by
 refine lx (c:=_) Tryz.func184 rfl T 64 Tryz.ntmps184 hT rfl hD fun a hS=>?_;replace hS:=(((((hS.fact bC hLv).fS e8).fS ea).fS ed).fM e3).fM e4;unfold ew at hM;refine ai hS fun a hS=>?_;refine kb hS fun X eT a w hk hS=>?_;refine ai hS fun a hS=>?_;refine aD ?_;refine ai hS fun a hS=>?_;obtain⟨f2,b4,hM⟩:=bd hM;refine kc hS yS (dJ _ _ hS.dlt g _ b4) fun _ w hR a hk hA=>?_;obtain rfl:=hR;have hS:=bY hA;refine ai hS fun a hS=>?_;rcases cd hM with⟨c9,hM⟩|⟨c9,hM⟩
 ·refine ai hS fun a hS=>?_;refine aD ?_;refine dr [] hS fun w hQ hS=>?_;refine gE [0,1,2,3,4] hS fun a hS=>?_;obtain⟨f3,b6,hM⟩:=bd hM;refine ec 5 hS JD (sD _ _ hS.dlt f.Base g _ _ (hS.get 3 rfl) (hS.get 2 rfl) _ b6) fun _ w hR a hk hA=>?_;obtain rfl:=hR;have hS:=bY hA;refine gE [6] hS fun a hS=>?_;refine eD ?_;refine ai hS fun a hS=>?_;cases hM
  refine aI hS rfl (aq hS rfl aH) ?_;have hZ:=hS.sl [1,2,3] [4,3,2,1,0];exact⟨C,D,E,k,n,m,h,rfl,hZ.dnew,(hZ.get 0 rfl),(hZ.get 1 rfl),(hZ.get 2 rfl),(hZ.get 3 rfl),(hZ.get 4 rfl)⟩
 refine ai hS fun a hS=>?_;refine aD ?_;refine aD ?_;refine dr [] hS fun w hQ hS=>?_;refine gE [0,1,2,3,4] hS fun a hS=>?_;obtain⟨dc,b9,hM⟩:=bd hM;obtain⟨ek,ca,cb⟩:=fh hS qJ cT 2 rfl 1 rfl (c:=(aV g)) (key:=g) rfl Ej (zc:=[aO bI]) rfl rfl b9;obtain rfl:=ca;refine dy (l:=[]) 5 (v:=.tuple #[aO dc,.bool ((cK aL g f.Memo).isSome)]) rfl (by kernel_rfl) (by kernel_rfl) (by kernel_rfl) (by kernel_rfl) hQ hS (cb rfl rfl bP) rfl rfl rfl fun a hS=>?_;refine gE [6,7,8,9,10] hS fun a hS=>?_;refine eD ?_;refine ai hS fun a hS=>?_;rcases cd hM with⟨ch,hM⟩|⟨ch,hM⟩
 ·refine ai hS fun a hS=>?_;cases hM
  refine aI hS rfl (aq hS rfl aH) ?_;have hZ:=hS.sl [1,2,3] [4,3,2,1,0];exact⟨C,D,E,k,n,m,h,rfl,hZ.dnew,(hZ.get 0 rfl),(hZ.get 1 rfl),(hZ.get 2 rfl),(hZ.get 3 rfl),(hZ.get 4 rfl)⟩
 refine ai hS fun a hS=>?_;refine aD ?_;refine ai hS fun a hS=>?_;obtain⟨f4,bb,hM⟩:=bd hM;refine kc hS xQ (c7 _ _ hS.dlt g _ bb) fun _ w hR a hk hA=>?_;obtain rfl:=hR;have hS:=bY hA;refine ai hS fun a hS=>?_;rcases cd hM with⟨ck,hM⟩|⟨ck,hM⟩
 ·refine ai hS fun a hS=>?_;obtain⟨f6,bi,hM⟩:=bd hM;replace hS:=hS.re [1,2,3] [0];refine wl rfl (de hS N1 rfl rfl (uV _ _ hS.dltD vrec hvrec f g _ _ _ _ _ _ _ _ _ _ hS.dok (hS.getD 4 rfl) (hS.getD 3 rfl) (hS.getD 2 rfl) (hS.getD 1 rfl) (hS.getD 0 rfl) (hS.getD 5 rfl) _ bi) fun _ w hR a hk hA=>?_);obtain⟨dl,dn,ds,c3,c0,c4,c1,he,cl,ag,ak,ao,a5,a9⟩:=hR;obtain rfl:=he.symm;have hS:=hA _ cl;replace hS:=((((hS.fS (ag.sub (aB _))).fS (ak.sub (aB _))).fS (ao.sub (aB _))).fM (a5.keep (au _ _) (aB _))).fM (a9.keep (au _ _) (aB _));refine ai hS fun a hS=>?_;refine aD ?_;refine dr [] hS fun w hQ hS=>?_;refine gE [0,1,2,3,4] hS fun a hS=>?_;obtain⟨dk,bl,hM⟩:=bd hM;obtain⟨el,co,cs⟩:=fh hS qJ cT 1 rfl 1 rfl (c:=(aV g)) (key:=g) rfl Ej (zc:=[aO bI]) rfl rfl bl;obtain rfl:=co;refine dy (l:=[]) 5 (v:=aO dk) rfl (by kernel_rfl) (by kernel_rfl) (by kernel_rfl) (by kernel_rfl) hQ hS (cs rfl rfl bP) rfl rfl rfl fun a hS=>?_;refine gE [6] hS fun a hS=>?_;refine eD ?_;refine ai hS fun a hS=>?_;cases hM
  refine aI hS rfl (aq hS rfl aH) ?_;have hZ:=hS.sl [0,1,2] [4,3,2,1,0];exact⟨dl,dn,ds,c3,c0,c4,c1,rfl,hZ.dnew,(hZ.get 0 rfl),(hZ.get 1 rfl),(hZ.get 2 rfl),(hZ.get 3 rfl),(hZ.get 4 rfl)⟩
 refine ai hS fun a hS=>?_;replace hS:=hS.nilRow aY.str 9 (by decide);obtain⟨r1,e5,hMo1⟩:=bd hM;refine bF _ (fun s a w=>∃ (o:LY) (p:LU) (t:Int) (u:LI) (z:LR) (A:LB) (B:LL) (W:Value) (O:LV) (P:AM) (a2:Nat) (H:AM) (Y:Nat) (K:Value) (L:Value) (M:Value),(o,p,t,u,z,A,B)=s∧St W0 (MD [xS b C f.Base.Revision D E d e,om d k n,om e m h]) T 64 [(0,pt b 0),(3,pt X 0),(7,W)] [.own W 9 aY.str.size O,om d P a2,om e H Y,xS b K t L M d e,.box X (aV g) 44] [an aY.str O o,aR aC K p,aR ae L u,aR aa M z,kC P A,sr H B,bC] a w) e5 ⟨_,_,_,_,_,_,_,_,_,_,_,_,_,_,_,_,rfl,hS.mt [0,3,4,2,1] [0,5,4,3,2,1,6]⟩ ?_;rintro s a w f1 ⟨o,p,t,u,z,A,B,W,O,P,a2,H,Y,K,L,M,rfl,hS⟩ hM hf1;have hM:it vrec g o p t u z A B=some f1:=hM;unfold it at hM;refine ai hS fun a hS=>?_;refine aK (J:=fun a w=>∃ (a3:Bool) (Q:ByteArray) (Z:Int) (a0:ByteArray) (a1:Nat),St W0 (MD [xS b C f.Base.Revision D E d e,om d k n,om e m h]) T 64 [(0,pt b 0),(3,pt X 0),(7,W),(8,pt a1 0)] [.own W 9 aY.str.size O,om d P a2,om e H Y,xS b K t L M d e,.box X (aV g) 44,.box a1 [.bool a3,aO Q,al Z,aO a0] 190] [an aY.str O o,aR aC K p,aR ae L u,aR aa M z,kC P A,sr H B,bC] a w∧fj vrec g o p t u z A B a3 Q Z a0=some f1) ?_ ?_
 ·skip;obtain⟨N149,b2⟩:∃ N,N=w.heap.size:=⟨_,rfl⟩;replace hS:=hS.fact (Gi N149) (xF b2);refine dr [(8,.new N149)] hS fun w hQ hS=>?_;refine gE [0,1,2,3,4,5] hS fun a hS=>?_;have hL:=hS;replace hL:=hL.freeze (R:=aY.str) 0 rfl 1 rfl;obtain⟨eX,a4,hM⟩:=bd hM;refine eh (i:=6) (j:=7) rfl rfl (by kernel_rfl) rfl rfl ?_ ?_
  ·skip;skip;have hL:=hS;replace hL:=hL.freeze (R:=aY.str) 0 rfl 1 rfl;refine id (bg hS wW rfl rfl (gz _ _ hL.dlt (hL.get 8 rfl) p g o _ _ (hL.get 3 rfl) (hL.get 0 rfl) _ a4) fun _ w hR a hk hA=>⟨gf (hk),?_⟩);obtain rfl:=hR;have hS:=bY hA;have d0:=(hS.get 0 rfl:N149≤w.heap.size);refine e1 7 (dd hS oY rfl fun bs d1 a w hk hS=>⟨gf (hk),?_⟩);refine dt 8 (.blk (some bs)) _ (by kernel_rfl) (n4 (fB d0 d1)) ?_;refine es 8 hS fun w hS=>?_;refine eD ?_;exact⟨_,_,_,_,_,hS.mt [1,2,3,4,5,0] [1,2,3,4,5,6,7],hM⟩
  skip;have d2:=(hS.get 0 rfl:N149≤w.heap.size);refine id (dd hS oY rfl fun bt d3 a w hk hS=>⟨gf (hk),?_⟩);refine dt 8 (.blk (some bt)) _ (by kernel_rfl) (n4 (fB d2 d3)) ?_;have hL:=hS;replace hL:=hL.freeze (R:=aY.str) 1 rfl 1 rfl;refine ec 6 hS wW (gz _ _ hL.dlt (hL.get 8 rfl) p g o _ _ (hL.get 3 rfl) (hL.get 0 rfl) _ a4) fun _ w hR a hk hA=>?_;obtain rfl:=hR;have hS:=bY hA;refine es 8 hS fun w hS=>?_;refine eD ?_;exact⟨_,_,_,_,_,hS.mt [1,2,3,4,5,0] [1,2,3,4,5,6,7],hM⟩
 rintro a w ⟨a3,Q,Z,a0,a1,hS,hM⟩;unfold fj at hM;refine aD ?_;refine ai hS fun a hS=>?_;rcases cd hM with⟨d4,hM⟩|⟨d4,hM⟩
 ·refine ai hS fun a hS=>?_;refine aD ?_;refine dr [(7,.blk (some d))] hS fun w hQ hS=>?_;refine gE [0,1,2,3,4,5,6] hS fun a hS=>?_;refine e1 7 (x5 hS qJ cT 1 rfl 4 rfl (c:=(aV g)) (cv:=[aO Q]) (key:=g) (val:=Q) rfl rfl rfl rfl rfl fun c5 c2 w hk hS=>⟨mx rfl hk kG,?_⟩);refine eD ?_;refine ai hS fun a hS=>?_;cases hM
  have hr:=hf1 _ rfl;subst hr;have hM:=hMo1;cases hM
  refine aI hS rfl (aq hS rfl aH) ?_;have hZ:=hS.sl [3,1,2] [2,3,4,0,6];exact⟨K,L,M,c5,c2,H,Y,rfl,hZ.dnew,(hZ.get 0 rfl),(hZ.get 1 rfl),(hZ.get 2 rfl),(hZ.get 3 rfl),(hZ.get 4 rfl)⟩
 refine ai hS fun a hS=>?_;obtain⟨I,b3,hM⟩:=bd hM;replace hS:=hS.re [3,1,2] [0,4,5];refine wl rfl (de hS Fv rfl rfl (hvrec _ _ hS.dltD (ap.mk p (aj.mk t u z) A B) (ah.mk Z a0) _ _ _ _ _ _ _ _ _ _ hS.dok (hS.getD 1 rfl) (hS.getD 2 rfl) (hS.getD 3 rfl) (hS.getD 4 rfl) (hS.getD 5 rfl) (hS.getD 6 rfl) _ b3) fun _ w hR a hk hA=>?_);obtain⟨fd,fl,fn,et,em,ex,eq,he,d6,av,b0,b1,ab,af⟩:=hR;obtain rfl:=he.symm;have hS:=hA _ d6;replace hS:=((((hS.fS (av.sub (aB _))).fS (b0.sub (aB _))).fS (b1.sub (aB _))).fM (ab.keep (au _ _) (aB _))).fM (af.keep (au _ _) (aB _));refine wl rfl (a8 (ps:=[(0,.tmp 61)]) hS xV Ng (zl:=[aO bI]) (by kernel_rfl) rfl (us:=[[aO I.1]]) ⟨rfl,trivial⟩ (ws:=[aO I.1]) rfl rfl rfl rfl fun eg a w hk hS=>?_);replace hS:=(hS.lit (R:=aY.str) (us:=[aO I.1]) (xs:=[I.1]) 0 rfl (by decide) (aA.one_ (R:=aY.str) (x:=I.1) rfl) rfl rfl).freeze (R:=aY.str) 0 rfl 0 rfl;obtain⟨da,hM⟩:=be hM;refine wl rfl (bM (R:=aY.str) (xs:=o) (ys:=[I.1]) hS xV (by decide) (by decide) rfl rfl 3 rfl 7 rfl 0 rfl da rfl fun fr er a w hk hS=>?_);exact fz
end
end
section
open Go.RowKit
open Go.Lib hiding intOf
def gS (s:ByteArray):Int:=if sJ s.toList<0 then 0 else if 65535<sJ s.toList then 0 else sJ s.toList
theorem DX (s:ByteArray):nT s=some (gS s):=by
 unfold nT gS;rw [HJ,ax];by_cases h1:sJ s.toList<0
 ·simp [h1]
 ·by_cases h2:65535<sJ s.toList
  ·simp [h1,h2]
  ·simp [h1,h2]
theorem ji (s:ByteArray):0≤gS s∧gS s≤65535:=by
 unfold gS;split
 ·omega
 ·split <;> omega
theorem xB {n:Nat} (h:n<65536):gS (cZ n)=n:=by
 unfold gS;rw [pj,ol,zH (by omega),if_neg (by omega),if_neg (by omega)]
theorem vE:∀ {l:List Int},(∀ x∈l,0≤x∧x≤65535)→0≤l.sum∧l.sum≤65535*l.length
 | [],_=>by simp
 | a::l,h=>by
  have h1:=vE (l:=l) fun x hx=>h x (o8 _ hx);have h2:=h a kh;simp only [List.sum_cons,gH];omega
def uH (r:aW) (ls:List ByteArray):Int :=
 let s:=r.C+(ls.map gS).sum
 if r.Final=1 then s.tmod 1000 else if r.Final=2 then (s.tdiv 2).tmod 1000 else if r.Final=3 then (ls.map gS).foldl max r.C else if r.Final=4 then s.tmod 2 else (ls.map gS).foldl (fun a b=>Ci .or .i64 a b) r.C
theorem Kw {α:Type} {l:List α} {k:Nat} (h:k<l.length):l.take (k+1)=l.take k++[l[k]]:=by rw [List.take_add_one,bS h]; rfl
theorem HQ {r:aW} {ls:List ByteArray} (hc:0≤r.C∧r.C≤65535) (hl:ls.length≤1000):qn r ls=some (uH r ls):=by
 have hb:∀ x∈ls.map gS,0≤x∧x≤65535:=fun x hx=>by
  obtain⟨s,_,rfl⟩:=gq.1 hx;exact ji s
 have h1:loop (fun s:Int×Int×Int×Int=>jM ls s.1 s.2.1 s.2.2.1 s.2.2.2) (r.C,r.C,r.C,0)=some (r.C+(ls.map gS).sum,(ls.map gS).foldl max r.C,(ls.map gS).foldl (fun a b=>Ci .or .i64 a b) r.C):=by
  refine za (I:=fun k s=>s=(r.C+((ls.take k).map gS).sum,((ls.take k).map gS).foldl max r.C,((ls.take k).map gS).foldl (fun a b=>Ci .or .i64 a b) r.C,(k:Int))) _ ls.length ?_ ?_ (by simp)
  ·rintro k _ hk rfl;left;refine⟨_,?_,rfl⟩;unfold jM;have hs:=vE (l:=(ls.take k).map gS) fun x hx=>by
    obtain⟨s,_,rfl⟩:=gq.1 hx;exact ji s
   have hlen:((ls.take k).map gS).length≤1000:=by rw [qR,fe]; omega
   have hx:=ji ls[k];dsimp only;rw [dlt hk,cond_true,bW hk,ax,DX,ax,pX (by omega) (by omega),pX (by omega) (by omega),Kw hk];simp only [ur,tE,yQ,List.sum_append,AJ,vi,List.foldl_nil,List.sum_cons,List.sum_nil,Int.add_zero,Int.natCast_add,Int.natCast_one,Int.add_assoc]
  ·rintro _ rfl;unfold jM;rw [bA];simp
 have hs:=vE hb;rw [qR] at hs;unfold qn lJ uH;rw [h1,ax];simp only [];by_cases f1:r.Final=1
 ·simp [f1]
 ·by_cases f2:r.Final=2
  ·have ht:0≤(r.C+(ls.map gS).sum).tdiv 2∧(r.C+(ls.map gS).sum).tdiv 2≤r.C+(ls.map gS).sum:=by
    rw [Int.tdiv_eq_ediv_of_nonneg (by omega)]; omega
   simp only [f2];rw [pX (by omega) (by omega)];simp
  ·by_cases f3:r.Final=3
   ·simp [f3]
   ·by_cases f4:r.Final=4
    ·simp [f4]
    ·have hb:∀ n:Int,r.Final≠n→(r.Final==n)=false:=fun n h=>by simpa using h
     rw [hb 1 f1,hb 2 f2,hb 3 f3,hb 4 f4];simp [f1,f2,f3,f4]
theorem Ov {a b:Nat} (ha:a<65536) (hb:b<65536):Ci .or .i64 (a:Int) (b:Int)=((a ||| b:Nat):Int)∧a ||| b<65536:=by
 have h:=Nat.or_lt_two_pow (n:=16) ha hb;refine⟨?_,h⟩;unfold Ci;simp only [show IntKind.i64.bits=64 from rfl];rw [BitVec.toNat_or,BitVec.toNat_ofInt,BitVec.toNat_ofInt,show ((a:Int) % ((2 ^ IntKind.i64.bits:Nat):Int)).toNat=a by rw [show IntKind.i64.bits=64 from rfl]; omega,show ((b:Int) % ((2 ^ IntKind.i64.bits:Nat):Int)).toNat=b by rw [show IntKind.i64.bits=64 from rfl]; omega];exact pX (by omega) (by omega)
theorem Ch:∀ (l:List Nat) (a:Nat),(∀ x∈l,x≤65535)→a<65536→(l.map fun x:Nat=>(x:Int)).foldl (fun a b=>Ci .or .i64 a b) (a:Int)=((l.foldl (· ||| ·) a:Nat):Int)∧l.foldl (· ||| ·) a<65536
 | [],a,_,ha=>⟨rfl,ha⟩
 | x::l,a,h,ha=>by
  have hx:=h x kh;obtain⟨h1,h2⟩:=Ov ha (show x<65536 by omega);simp only [tE,vi,h1];exact Ch l _ (fun y hy=>h y (o8 _ hy)) h2
theorem wu {l:List aW} {n:Nat} {r:aW} (hR:bX l) (h:l[n]? = some r) {ls:List ByteArray} (hl:ls.length≤3):∃ m:Nat,uH r ls=m∧m<65536:=by
 have hb:∀ x∈ls.map gS,0≤x∧x≤65535:=fun x hx=>by
  obtain⟨s,_,rfl⟩:=gq.1 hx;exact ji s
 have hs:=vE hb;rw [qR] at hs;have hr:=hR.each n r h;unfold uH;dsimp only;cases hg:r.Ring with
 | false =>
  obtain⟨h1,h2,h3,h4⟩:=hr.plain hg;have key:∀ z:Int,0≤z→z<65536→∃ m:Nat,z=m∧m<65536:=fun z h1 h2=>⟨z.toNat,by omega,by omega⟩;by_cases f1:r.Final=1
  ·rw [if_pos f1];refine key _ (yt _ (by omega)) ?_;have:=yu (r.C+(ls.map gS).sum) (b:=1000) (by omega);omega
  ·rw [if_neg f1];by_cases f2:r.Final=2
   ·rw [if_pos f2];have ht:0≤(r.C+(ls.map gS).sum).tdiv 2:=by rw [Int.tdiv_eq_ediv_of_nonneg (by omega)]; omega
    refine key _ (yt _ ht) ?_;have:=yu ((r.C+(ls.map gS).sum).tdiv 2) (b:=1000) (by omega);omega
   ·rw [if_neg f2];by_cases f3:r.Final=3
    ·rw [if_pos f3];have hm:∀ (xs:List Int) (c:Int),(∀ x∈xs,0≤x∧x≤65535)→0≤c→c≤65535→0≤xs.foldl max c∧xs.foldl max c≤65535:=by
      intro xs
      induction xs with
      | nil=>intro c _ h1 h2; exact⟨h1,h2⟩
      | cons x xs ih =>
       intro c hx h1 h2;have:=hx x kh;exact ih _ (fun y hy=>hx y (o8 _ hy)) (by omega) (by omega)
     have:=hm (ls.map gS) r.C hb (by omega) (by omega);exact key _ this.1 (by omega)
    ·rw [if_neg f3,if_pos (by omega)];refine key _ (yt _ (by omega)) ?_;have:=yu (r.C+(ls.map gS).sum) (b:=2) (by omega);omega
 | true =>
  obtain⟨h1,h2,h3⟩:=hr.ring hg;rw [if_neg (by omega),if_neg (by omega),if_neg (by omega),if_neg (by omega)];obtain⟨c,hc⟩:∃ c:Nat,r.C=c:=⟨r.C.toNat,by omega⟩;have e:ls.map gS=(ls.map fun s=>(gS s).toNat).map fun x:Nat=>(x:Int):=by
   rw [AT];refine List.map_congr_left fun s _=>?_;have:=ji s;simp only [Function.comp];omega
  rw [e,hc];have:=Ch (ls.map fun s=>(gS s).toNat) c (fun x hx=>by
   obtain⟨s,_,rfl⟩:=gq.1 hx;have:=ji s;omega) (by omega)
  exact⟨_,this.1,this.2⟩
end
section
open Go.RowKit
open Go.Lib hiding intOf
theorem Fp:∀ a:List UInt8,compareBytes a a=0
 | []=>rfl
 | x::r=>by
  have:¬ x<x:=UInt8.lt_irrefl x;simp [compareBytes,this,Fp r]
theorem KR:∀ {a b:List UInt8},compareBytes a b=0→a=b
 | [],[],_=>rfl
 | [],_::_,h=>by simp [compareBytes] at h
 | _::_,[],h=>by simp [compareBytes] at h
 | x::a,y::b,h=>by
  unfold compareBytes at h;split at h
  ·cases h
  ·split at h
   ·cases h
   ·rename_i h1 h2;have e:x=y:=UInt8.le_antisymm (yw.1 h2) (yw.1 h1);rw [e,KR h]
theorem Fn:∀ a b:List UInt8,compareBytes b a = -compareBytes a b
 | [],[]=>rfl
 | [],_::_=>rfl
 | _::_,[]=>rfl
 | x::a,y::b=>by
  unfold compareBytes;by_cases h1:x<y
  ·have h2:¬ y<x:=fun h=>UInt8.lt_irrefl _ (UInt8.lt_trans h1 h);simp [h1,h2]
  ·by_cases h2:y<x
   ·simp [h1,h2]
   ·simp [h1,h2,Fn a b]
theorem Hr (a b:List UInt8):compareBytes a b = -1∨compareBytes a b=0∨compareBytes a b=1:=by
 induction a generalizing b with
 | nil=>cases b <;> simp [compareBytes]
 | cons x a ih =>
  cases b with
  | nil=>simp [compareBytes]
  | cons y b =>
   unfold compareBytes;split
   ·simp
   ·split
    ·simp
    ·exact ih b
theorem De:∀ {a b c:List UInt8},compareBytes a b<0→compareBytes b c<0→compareBytes a c<0
 | [],[],_,h,_=>by simp [compareBytes] at h
 | [],_::_,[],_,h=>by simp [compareBytes] at h
 | [],_::_,_::_,_,_=>by simp [compareBytes]
 | _::_,[],_,h,_=>by simp [compareBytes] at h
 | _::_,_::_,[],_,h=>by simp [compareBytes] at h
 | x::a,y::b,z::c,h1,h2=>by
  unfold compareBytes at h1 h2 ⊢;by_cases e1:x<y
  ·by_cases e2:y<z
   ·simp [UInt8.lt_trans e1 e2]
   ·by_cases e3:z<y
    ·simp [e2,e3] at h2
    ·have e:y=z:=UInt8.le_antisymm (yw.1 e3) (yw.1 e2);subst e; simp [e1]
  ·by_cases e2:y<x
   ·simp [e1,e2] at h1
   ·have e:x=y:=UInt8.le_antisymm (yw.1 e2) (yw.1 e1);subst e;simp only [e1,if_false] at h1;by_cases e3:x<z
    ·simp [e3]
    ·by_cases e4:z<x
     ·simp [e3,e4] at h2
     ·simp only [e3,e4,if_false] at h2 ⊢;exact De h1 h2
def bT (a b:ah):Int:=if a.Kind<b.Kind then -1 else if b.Kind<a.Kind then 1 else compareBytes a.Text.toList b.Text.toList
theorem toList_inj {a b:ByteArray} (h:a.toList=b.toList):a=b:=by
 rw [ByteArray.toList_eq,ByteArray.toList_eq] at h;exact ByteArray.ext (Ee.1 h)
theorem vr (a:ah):bT a a=0:=by simp [bT,Fp]
theorem Kf {a b:ah} (h:bT a b=0):a=b:=by
 unfold bT at h;split at h
 ·cases h
 ·split at h
  ·cases h
  ·obtain⟨k,t⟩:=a;obtain⟨l,s⟩:=b;simp only [ah.mk.injEq] at *;exact⟨by omega,toList_inj (KR h)⟩
theorem x6 (a b:ah):bT b a = -bT a b:=by
 unfold bT;by_cases h1:a.Kind<b.Kind
 ·have h2:¬ b.Kind<a.Kind:=by omega
  simp [h1,h2]
 ·by_cases h2:b.Kind<a.Kind
  ·simp [h1,h2]
  ·simp [h1,h2,Fn a.Text.toList]
theorem rO (a b:ah):bT a b = -1∨bT a b=0∨bT a b=1:=by
 unfold bT;split
 ·simp
 ·split
  ·simp
  ·exact Hr _ _
theorem km {a b c:ah} (h1:bT a b<0) (h2:bT b c<0):bT a c<0:=by
 unfold bT at h1 h2 ⊢;by_cases e1:a.Kind<b.Kind
 ·by_cases e2:b.Kind<c.Kind
  ·rw [if_pos (by omega)]; omega
  ·by_cases e3:c.Kind<b.Kind
   ·simp [e2,e3] at h2
   ·rw [if_pos (by omega)]; omega
 ·by_cases e2:b.Kind<a.Kind
  ·simp [e1,e2] at h1
  ·simp only [e1,e2,if_false] at h1;by_cases e3:b.Kind<c.Kind
   ·rw [if_pos (by omega)]; omega
   ·by_cases e4:c.Kind<b.Kind
    ·simp [e3,e4] at h2
    ·simp only [e3,e4,if_false] at h2;rw [if_neg (by omega),if_neg (by omega)];exact De h1 h2
theorem oo {a b:ah}:0<bT a b↔bT b a<0:=by rw [x6 a b]; omega
theorem uJ {a:ah}:¬ bT a a<0:=by rw [vr]; omega
theorem x7 {a b:ah} (h:bT a b<0):¬ bT b a<0:=by rw [x6 a b]; omega
theorem pI {a b:ah} (h:bT a b<0):a≠b:=fun e=>by subst e; exact uJ h
theorem tu (a b:ah):bT a b<0∨a=b∨bT b a<0:=by
 rcases rO a b with h | h | h
 ·exact .inl (by omega)
 ·exact .inr (.inl (Kf h))
 ·exact .inr (.inr (by rw [x6 a b]; omega))
theorem mH {a b c:ah} (h1:¬ bT b a<0) (h2:bT b c<0):bT a c<0:=by
 rcases tu a b with h | h | h
 ·exact km h h2
 ·subst h; exact h2
 ·exact absurd h h1
def eo (a b:ah):Bool:=a.Kind==b.Kind&&a.Text.toList==b.Text.toList
theorem iO {a b:ah}:eo a b=true↔a=b:=by
 unfold eo;obtain⟨k,t⟩:=a;obtain⟨l,s⟩:=b;simp only [so,beq_iff_eq,ah.mk.injEq];exact⟨fun h=>⟨h.1,toList_inj h.2⟩,fun h=>⟨h.1,by rw [h.2]⟩⟩
theorem sA {a b:ah}:eo a b=false↔a≠b:=by rw [← Bool.not_eq_true,iO]
theorem JK (x y:Int):p9 x y=some (if x<y then -1 else if y<x then 1 else 0):=by
 unfold p9 mB;by_cases h1:x<y
 ·simp [h1]
 ·by_cases h2:y<x <;> simp [h1,h2]
theorem MV (a b:Int):zw [a,b]=some (if a≠0 then a else b):=by
 unfold zw;by_cases h:a=0
 ·subst h;rw [Cw (s':=1)]
  ·by_cases hb:b=0
   ·subst hb;rw [Cw (s':=2)]
    ·rw [qh (r:=.go ())]
     ·rfl
     ·rfl
    ·rfl
   ·rw [qh (r:=.out b)]
    ·simp [Fl.el]
    ·unfold ti;have:(b != 0)=true:=by simpa using hb
     simp [bu,this]
  ·rfl
 ·rw [qh (r:=.out a)]
  ·simp [Fl.el,h]
  ·unfold ti;have:(a != 0)=true:=by simpa using h
   simp [bu,this]
theorem zx (a b:ah):sB a b=some (bT a b):=by
 unfold sB bT tj;rw [JK];simp only [ax];rw [MV];by_cases h1:a.Kind<b.Kind
 ·simp [h1]
 ·by_cases h2:b.Kind<a.Kind <;> simp [h1,h2]
section
variable {κ ν:Type} {q:κ→κ→Bool} (hq:∀ a b,q a b=true↔a=b)
def Nd (xs:List (κ×ν)):Prop:=(xs.map (·.1)).Nodup
include hq
theorem rU (a:κ):q a a=true:=(hq a a).2 rfl
theorem yf {a b:κ} (h:a≠b):q a b=false:=by rw [← Bool.not_eq_true,hq]; exact h
theorem Ad {k:κ} {v:ν}:∀ {xs:List (κ×ν)},Nd xs→(cK q k xs=some v↔(k,v)∈xs)
 | [],_=>by simp [cK]
 | x::r,h=>by
  have h':=yP.1 (show (x.1::r.map (·.1)).Nodup from h);have ih:=Ad (k:=k) (v:=v) (xs:=r) h'.2;by_cases e:k=x.1
  ·subst e;rw [cK,rU hq,cond_true];constructor
   ·intro h; injection h with h; rw [← h]; exact kh
   ·intro hm;rcases cz.1 hm with hm | hm
    ·rw [← hm]
    ·exact absurd (vh (f:=(·.1)) hm) h'.1
  ·rw [cK,yf hq e,cond_false,ih,cz];constructor
   ·exact .inr
   ·rintro (h | h)
    ·exact absurd (congrArg (·.1) h) e
    ·exact h
theorem BE {k:κ}:∀ {xs:List (κ×ν)},cK q k xs=none↔∀ v,(k,v) ∉ xs
 | []=>by simp [cK]
 | x::r=>by
  by_cases e:k=x.1
  ·rw [cK,e,rU hq,cond_true];constructor
   ·intro h; cases h
   ·intro h; exact absurd kh (h x.2)
  ·rw [cK,yf hq e,cond_false,BE];constructor
   ·intro h v hv;rcases cz.1 hv with hv | hv
    ·exact e (congrArg (·.1) hv)
    ·exact h v hv
   ·intro h v hv; exact h v (o8 _ hv)
theorem uN (k k':κ) (v:ν):∀ (xs:List (κ×ν)),cK q k (eH q k' v xs)=if q k k' then some v else cK q k xs
 | []=>by simp [eH,cK,Bool.cond_eq_ite]
 | x::r=>by
  by_cases e:k'=x.1
  ·rw [eH,e,rU hq,cond_true,cK,cK];cases q k x.1 <;> simp
  ·rw [eH,yf hq e,cond_false,cK,cK,uN k k' v r];by_cases e2:k=x.1
   ·have:q k k'=false:=yf hq (fun h=>e (h.symm.trans e2));rw [e2,rU hq,cond_true,cond_true,← e2,this]; rfl
   ·rw [yf hq e2]; rfl
theorem yd (k:κ) (v:ν):∀ {xs:List (κ×ν)},Nd xs→(eH q k v xs).Perm ((k,v)::xs.filter fun y=>!q k y.1)
 | [],_=>by simp [eH]
 | x::r,h=>by
  have h':=yP.1 (show (x.1::r.map (·.1)).Nodup from h);by_cases e:k=x.1
  ·rw [eH,e,rU hq,cond_true,jV (by simp [rU hq])];rw [tb.2];intro y hy;rw [yf hq]; rfl;intro e2;exact h'.1 (e2▸vh hy)
  ·rw [eH,yf hq e,cond_false,oX (by simp [yf hq e])];exact ((yd k v h'.2).cons x).trans (List.Perm.swap _ _ _)
theorem uM (k:κ):∀ {xs:List (κ×ν)},Nd xs→sN q k xs=xs.filter fun y=>!q k y.1
 | [],_=>rfl
 | x::r,h=>by
  have h':=yP.1 (show (x.1::r.map (·.1)).Nodup from h);by_cases e:k=x.1
  ·rw [sN,e,rU hq,cond_true,jV (by simp [rU hq])];rw [tb.2];intro y hy;rw [yf hq]; rfl;intro e2;exact h'.1 (e2▸vh hy)
  ·rw [sN,yf hq e,cond_false,oX (by simp [yf hq e]),uM k h'.2]
omit hq in
theorem Nd.perm {xs ys:List (κ×ν)} (h:Nd xs) (p:xs.Perm ys):Nd ys:=(p.map _).nodup_iff.1 h
omit hq in
theorem Nd.filter {xs:List (κ×ν)} (h:Nd xs) (p:κ×ν→Bool):Nd (xs.filter p):=h.sublist (List.Sublist.map _ List.filter_sublist)
theorem Nd.put {xs:List (κ×ν)} (h:Nd xs) (k:κ) (v:ν):Nd (eH q k v xs):=by
 refine Nd.perm ?_ (yd hq k v h).symm;show (k::(xs.filter fun y=>!q k y.1).map (·.1)).Nodup;refine yP.2 ⟨fun hm=>?_,h.filter _⟩;obtain⟨y,hy,e⟩:=gq.1 hm;have:=(iZ.1 hy).2;rw [e,rU hq] at this;cases this
theorem Nd.del {xs:List (κ×ν)} (h:Nd xs) (k:κ):Nd (sN q k xs):=by rw [uM hq k h]; exact h.filter _
theorem If (k k':κ) {xs:List (κ×ν)} (h:Nd xs):cK q k (sN q k' xs)=if q k k' then none else cK q k xs:=by
 rw [uM hq k' h];by_cases e:k=k'
 ·subst e;rw [rU hq,if_pos rfl,BE hq];intro v hv;have:=(iZ.1 hv).2;simp [rU hq] at this
 ·rw [yf hq e,if_neg (by simp)];refine Option.ext fun v=>?_;rw [Ad hq (h.filter _),Ad hq h,iZ];simp [yf hq (fun h=>e h.symm)]
end
end
section
open Go.RowKit
open Go.Lib hiding intOf
def ut (l:List ah):Prop:=l.Pairwise fun a b=>bT a b<0
theorem Dx:∀ {a b:List ah},ut a→ut b→(∀ x,x∈a↔x∈b)→a=b
 | [],[],_,_,_=>rfl
 | [],y::b,_,_,h=>by have:=(h y).2 kh; cases this
 | x::a,[],_,_,h=>by have:=(h x).1 kh; cases this
 | x::a,y::b,ha,hb,h=>by
  have ha':=o6.1 ha;have hb':=o6.1 hb;have e:x=y:=by
   rcases cz.1 ((h x).1 kh) with e | h1
   ·exact e
   ·rcases cz.1 ((h y).2 kh) with e | h2
    ·exact e.symm
    ·exact absurd (hb'.1 x h1) (x7 (ha'.1 y h2))
  subst e;rw [Dx ha'.2 hb'.2 fun z=>?_];constructor
  ·intro hz;rcases cz.1 ((h z).1 (o8 _ hz)) with e | h1
   ·subst e; exact absurd (ha'.1 z hz) uJ
   ·exact h1
  ·intro hz;rcases cz.1 ((h z).2 (o8 _ hz)) with e | h1
   ·subst e; exact absurd (hb'.1 z hz) uJ
   ·exact h1
structure qS (l m:List ah):Prop where
 asc:ut m
 mem:∀ x,x∈m↔x∈l
 len:m.length≤l.length
theorem qS.uniq {l m m':List ah} (h:qS l m) (h':qS l m'):m=m':=Dx h.asc h'.asc fun x=>(h.mem x).trans (h'.mem x).symm
def Jg (l:List aw):Prop:=Rm l.length∧∀ r∈l,Rm r.Reads.length
def Fg (l:List aw):Prop:=l.Pairwise fun a b=>bT a.Key b.Key<0
def qK (l:List aw) (r:aw):List aw:=(l.filter fun x=>decide (bT x.Key r.Key<0))++r::(l.filter fun x=>decide (0<bT x.Key r.Key))
theorem x9 (a:ah):eo a a=true:=iO.2 rfl
theorem BA (a b:ah):eo a b=eo b a:=by
 by_cases h:a=b
 ·rw [h]
 ·rw [sA.2 h,sA.2 fun e=>h e.symm]
def PQ:aw:=⟨⟨0,⟨#[]⟩⟩,⟨#[]⟩,[],0,0,0,false⟩
def cM (l:List aw) (k:ah):aw×Bool:=match l.find? (fun r=>eo r.Key k) with | some r=>(r,true) | none=>(PQ,false)
theorem FC {α:Type} {p:α→Bool} {l:List α} {k:Nat} {x:α} (h1:l[k]? = some x) (h2:p x=true) (h3:∀ j z,j<k→l[j]? = some z→p z=false):l.find? p=some x:=by
 obtain⟨h,e⟩:=bN.1 h1;have:l=l.take k++x::l.drop (k+1):=by rw [← e]; simp
 rw [this,List.find?_append,List.find?_cons_of_pos h2];have:(l.take k).find? p=none:=by
  rw [AK];intro z hz;obtain⟨j,hj⟩:=kg.1 hz;rw [qV] at hj;split at hj
  ·rename_i hjk;rw [h3 j z hjk hj]; simp
  ·cases hj
 rw [this]; rfl
theorem mm (a b:ah):jK a b=some (bT a b):=by
 unfold jK bT tj;by_cases h1:a.Kind<b.Kind
 ·simp [h1]
 ·by_cases h2:b.Kind<a.Kind <;> simp [h1,h2]
theorem rI {r:aw} (h:Rm r.Reads.length):gD r=some r:=by
 unfold gD Rm at *;rw [show bH (([]:List ah).length+r.Reads.length)=true from dX (by simp; omega)]; rfl
theorem BN {l:List aw} {r:aw} (h:Fg l) (hl:Rm l.length) (hr:Rm r.Reads.length):me l r=some (qK l r):=by
 unfold Rm at hl;have hpl:∀ i,((l.take i).filter fun x=>decide (bT x.Key r.Key<0)).length+((l.take i).filter fun x=>decide (0<bT x.Key r.Key)).length≤l.length:=fun i=>by
  have h1:∀ m:List aw,(m.filter fun x=>decide (bT x.Key r.Key<0)).length+(m.filter fun x=>decide (0<bT x.Key r.Key)).length≤m.length:=by
   intro m
   induction m with
   | nil=>simp
   | cons y m ih =>
    by_cases a:bT y.Key r.Key<0
    ·rw [oX (by simpa using a),jV (by simp; omega)]; simp only [gH]; omega
    ·by_cases b:0<bT y.Key r.Key
     ·rw [jV (by simpa using a),oX (by simpa using b)]; simp only [gH]; omega
     ·rw [jV (by simpa using a),jV (by simpa using b)]; simp only [gH]; omega
  have:=h1 (l.take i);rw [fe] at this; omega
 have key:Ok (me l r) fun y=>y=qK l r:=by
  unfold me;refine cc (fun n t=>n≤l.length∧t.2.2=(n:Int)∧((t.1=l.take n∧t.2.1=false∧∀ x∈l.take n,bT x.Key r.Key<0)∨(t.1=qK (l.take n) r∧t.2.1=true∧∃ x∈l.take n,¬ bT x.Key r.Key<0)))
   (fun t=>(t.1=l∧t.2=false∧∀ x∈l,bT x.Key r.Key<0)∨(t.1=qK l r∧t.2=true)) l.length ⟨cR _,rfl,.inl ⟨rfl,rfl,by simp⟩⟩ (fun n t hn hI=>?_) (fun t ht=>?_)
  ·obtain⟨out,put,i⟩:=t;obtain⟨_,h1,h2⟩:=hI;dsimp only at h1 h2;subst h1;unfold rb;dsimp only;by_cases hi:n<l.length
   ·have hx:l[n]? = some l[n]:=bS hi;obtain⟨x,hxe⟩:∃ x,x=l[n]:=⟨_,rfl⟩;rw [← hxe] at hx;rw [dlt hi,cond_true,aZ,hx,ax,mm,ax];have tk:=b7 hx;have hle:=hpl n;rcases h2 with⟨rfl,rfl,h3⟩|⟨rfl,rfl,y,hy,h3⟩
    ·have e0:((l.take n).filter fun x=>decide (bT x.Key r.Key<0))=l.take n:=tb.2 fun x hx=>by simpa using h3 x hx
     have e1:((l.take n).filter fun x=>decide (0<bT x.Key r.Key))=[]:=yq.2 fun x hx=>by have:=h3 x hx; simp; omega
     rcases rO x.Key r.Key with hc | hc | hc
     ·rw [hc];unfold iT iS iR;rw [show bH ((l.take n).length+[x].length)=true from dX (by simp; omega),cJ (by omega)];refine ar ⟨hi,hi,rfl,.inl ⟨tk.symm,rfl,fun z hz=>?_⟩⟩;rw [tk] at hz;rcases dz.1 hz with hz | hz
      ·exact h3 z hz
      ·simp only [cz,gn,or_false] at hz; subst hz; omega
     ·rw [hc];unfold iT iS iR;rw [rI hr,cJ (by omega)];simp only [ax];rw [show bH ((l.take n).length+[r].length)=true from dX (by simp; omega)];refine ar ⟨hi,hi,rfl,.inr ⟨?_,rfl,x,by rw [tk]; simp,by omega⟩⟩;unfold qK;rw [tk,lh,lh,e0,e1];simp [hc]
     ·rw [hc];unfold iT iS iR;rw [rI hr,cJ (by omega)];simp only [ax];rw [show bH ((l.take n).length+[r].length)=true from dX (by simp; omega),show bH ((l.take n++[r]).length+[x].length)=true from dX (by simp; omega)];refine ar ⟨hi,hi,rfl,.inr ⟨?_,rfl,x,by rw [tk]; simp,by omega⟩⟩;unfold qK;rw [tk,lh,lh,e0,e1];simp [hc]
    ·have hyx:bT y.Key x.Key<0:=by
      obtain⟨j,hj⟩:=kg.1 hy;rw [qV] at hj;split at hj
      ·rename_i hjn;obtain⟨q1,q2⟩:=bN.1 hj;have:=gG.1 h j n q1 hi hjn;rw [q2,← hxe] at this; exact this
      ·cases hj
     have hc:0<bT x.Key r.Key:=by
      rw [oo];exact mH (b:=y.Key) h3 hyx
     have hc1:bT x.Key r.Key=1:=by rcases rO x.Key r.Key with h | h | h <;> omega
     rw [hc1];unfold iT iS iR;rw [cJ (by omega),show bH ((qK (l.take n) r).length+[x].length)=true from dX (by unfold qK; simp only [cS,gH,sH]; omega)];refine ar ⟨hi,hi,rfl,.inr ⟨?_,rfl,y,by rw [tk]; exact qC _ hy,h3⟩⟩;unfold qK;rw [tk,lh,lh];simp [hc1]
   ·have hn2:n=l.length:=by omega
    rw [hn2,bA,cond_false];rw [hn2,i6] at h2;refine ar ?_;rcases h2 with⟨a,b,c⟩|⟨a,b,c⟩
    ·exact .inl ⟨a,b,c⟩
    ·exact .inr ⟨a,b⟩
  ·obtain⟨out,put⟩:=t;dsimp only at ht;unfold oC oB;rcases ht with⟨rfl,rfl,h3⟩|⟨rfl,rfl⟩
   ·rw [rI hr];simp only [my,cond_true,ax];rw [show bH (out.length+[r].length)=true from dX (by simp; omega)];refine ar ?_;unfold qK;rw [tb.2 fun x hx=>by simpa using h3 x hx,yq.2 fun x hx=>by have:=h3 x hx; simp; omega]
   ·exact ar rfl
 obtain⟨y,e,rfl⟩:=key;exact e
theorem s7 {l:List ah} (h:Rm l.length):gZ l l=some true:=by
 unfold Rm at h;unfold gZ;rw [show ((l.length:Int) != (l.length:Int))=false by simp,cond_false];refine gr (cD (xs:=l) (fun i=>(i:Int)) rfl (r:=.go ()) (fun i x hx=>?_) ?_) rfl
 ·unfold iQ;rw [cU hx,cond_true,aZ,hx,ax,ax,cJ (by have:=bc hx; omega)];show cond (!eo x x) _ _=_;rw [x9]; rfl
 ·unfold iQ;rw [bA]; rfl
theorem Ix {l:List aw} {r x:aw} (h:x∈qK l r):x∈l∨x=r:=by
 unfold qK at h;rcases dz.1 h with h | h
 ·exact .inl (iZ.1 h).1
 ·rcases cz.1 h with h | h
  ·exact .inr h
  ·exact .inl (iZ.1 h).1
theorem DO {l:List aw} (h:Fg l) (r:aw):Fg (qK l r):=by
 unfold Fg qK;rw [xJ];refine⟨AL _ h,o6.2 ⟨fun x hx=>?_,AL _ h⟩,fun x hx y hy=>?_⟩
 ·have:=(iZ.1 hx).2;simp only [decide_eq_true_eq] at this;exact oo.1 this
 ·have h1:=(iZ.1 hx).2;simp only [decide_eq_true_eq] at h1;rcases cz.1 hy with rfl | hy
  ·exact h1
  ·have h2:=(iZ.1 hy).2;simp only [decide_eq_true_eq] at h2;exact km h1 (oo.1 h2)
theorem ub {l:List aw} (hl:Jg l) (k:ah):c8 l k=some (cM l k):=by
 have h1:=hl.1;unfold Rm at h1;unfold c8;have key:=nD (B:=fun t:Int=>jf l k t) (xs:=l) (fun r=>eo r.Key k) (fun i=>(i:Int)) (s0:=0) rfl (y:=fun i x=>Fl.out (x,true)) (n:=Fl.go ()) (fun i x hx hp=>by
   unfold jf;rw [cU hx,cond_true,aZ,hx,ax,cJ (by have:=bc hx; omega)];show cond (eo x.Key k) _ _=_;rw [hp]; rfl) (fun i x hx hp=>by
   unfold jf;rw [cU hx,cond_true,aZ,hx,ax];show cond (eo x.Key k) _ _=_;rw [hp,rI (hl.2 x (a6 hx))]; rfl) (by
   unfold jf;rw [bA]; rfl)
 unfold cM;rcases key with⟨i,x,h1,h2,h3,h4⟩|⟨h1,h2⟩
 ·rw [h4,FC (p:=fun r=>eo r.Key k) h1 h2 h3]; rfl
 ·rw [h2,show l.find? (fun r=>eo r.Key k)=none from AK.2 fun x hx=>by rw [h1 x hx]; simp]; rfl
theorem yi {l:List ah} (hl:Rm l.length) (k:ah):pq l k=some (l.any fun x=>eo k x):=by
 unfold Rm at hl;unfold pq;refine gr (kH (xs:=l) (fun x=>eo k x) (fun i=>(i:Int)) rfl (y:=Fl.out true) (n:=Fl.go ()) (fun i x hx hp=>?_) (fun i x hx hp=>?_) ?_) ?_
 ·unfold ma;rw [cU hx,cond_true,aZ,hx,ax,cJ (by have:=bc hx; omega)];show cond (eo x k) _ _=_;rw [BA,hp]; rfl
 ·unfold ma;rw [cU hx,cond_true,aZ,hx,ax];show cond (eo x k) _ _=_;rw [BA,hp]; rfl
 ·unfold ma;rw [bA]; rfl
 ·cases l.any fun x=>eo k x <;> rfl
theorem Kb {out:List ah} (h:ut out) {i:Nat} {k:ah} (h1:∀ y∈out.take i,bT y k<0) (h2:∀ y∈out.drop i,bT k y<0):ut (out.take i++[k]++out.drop i):=by
 unfold ut at *;rw [AU,xJ];refine⟨h.sublist (List.take_sublist _ _),o6.2 ⟨fun y hy=>h2 y hy,h.sublist (List.drop_sublist _ _)⟩,fun a ha b hb=>?_⟩;rcases cz.1 hb with rfl | hb
 ·exact h1 a ha
 ·exact km (h1 a ha) (h2 b hb)
theorem Kc {out:List ah} {i:Nat} {k x:ah}:x∈out.take i++[k]++out.drop i↔x∈out∨x=k:=by
 conv=>rhs; rw [← Gd i out]
 simp only [dz,cz,gn,or_false];constructor
 ·rintro ((h | h) | h)
  ·exact .inl (.inl h)
  ·exact .inr h
  ·exact .inl (.inr h)
 ·rintro ((h | h) | h)
  ·exact .inl (.inl h)
  ·exact .inr h
  ·exact .inl (.inr h)
theorem s6 {l:List ah} (hl:Rm l.length):∃ m,gw l=some m∧qS l m:=by
 unfold Rm at hl;have key:Ok (gw l) fun m=>qS l m:=by
  unfold gw;refine cc (fun n s=>s.2=(n:Int)∧n≤l.length∧qS (l.take n) s.1) (fun r=>qS l r) l.length ⟨rfl,cR _,tD,fun x=>by simp,by simp⟩ (fun n s hn hI=>?_) (fun r hr=>ar hr);obtain⟨out,g⟩:=s;obtain⟨h1,h2,h3⟩:=hI;dsimp only at h1 h3;subst h1;have hol:=h3.len;rw [fe] at hol;unfold nh;dsimp only;by_cases hi:n<l.length
  ·have hx:l[n]? = some l[n]:=bS hi;obtain⟨k,hk⟩:∃ k,k=l[n]:=⟨_,rfl⟩;rw [← hk] at hx;rw [dlt hi,cond_true,aZ,hx,ax];have stay:k∈out→qS (l.take (n+1)) out:=fun hm=>⟨h3.asc,fun x=>by
    rw [b7 hx,dz,h3.mem];constructor
    ·exact .inl
    ·rintro (h | h)
     ·exact h
     ·simp only [cz,gn,or_false] at h;subst h; exact (h3.mem _).1 hm,by rw [fe]; omega⟩
   have put:∀ i:Nat,i≤out.length→(∀ y∈out.take i,bT y k<0)→(∀ y∈out.drop i,bT k y<0)→qS (l.take (n+1)) (out.take i++[k]++out.drop i):=fun i hio q1 q2=>⟨Kb h3.asc q1 q2,fun x=>by
    rw [Kc,b7 hx,dz,h3.mem];simp,by simp only [cS,fe,sm,gH,sH]; omega⟩
   have j3:∀ i:Nat,i≤out.length→(∀ y∈out.take i,bT y k<0)→(∀ y∈out.drop i,bT k y<0)→Ok (e9 out (n:Int) k (i:Int) true) fun r=>match r with
     | .go s'=>n<l.length∧s'.2=((n+1:Nat):Int)∧n+1≤l.length∧qS (l.take (n+1)) s'.1
     | .out r=>qS l r:=fun i hio q1 q2=>by
    unfold e9 iH;rw [cond_true,pF hio,ax,ud hio,ax,cJ (by omega)];have r1:bH (([]:List ah).length+(out.take i).length)=true:=dX (by simp; omega);have r2:bH ((([]:List ah)++out.take i).length+[k].length)=true:=dX (by simp; omega);have r3:bH (((([]:List ah)++out.take i)++[k]).length+(out.drop i).length)=true:=dX (by simp; omega);rw [r1,r2,r3];simp only [gd,cond_true,AI];exact ar ⟨hi,rfl,hi,put i hio q1 q2⟩
   have inner:=nD (B:=fun t:Int=>f7 out k t) (xs:=out) (fun y=>!decide (bT y k<0)) (fun i=>(i:Int)) (s0:=0) rfl (y:=fun i _=>(i:Int)) (n:=(out.length:Int)) (fun i y hy hp=>by
     unfold f7;simp only [Bool.not_eq_false'] at hp;rw [cU hy,cond_true,aZ,hy,ax,mm,ax,hp,cond_true,cJ (by have:=bc hy; omega)]) (fun i y hy hp=>by
     unfold f7;simp only [tF] at hp;rw [cU hy,cond_true,aZ,hy,ax,mm,ax,hp,cond_false]) (by
     unfold f7;rw [bA]; rfl)
   rcases inner with⟨i,y,a1,a2,a3,a4⟩|⟨a1,a2⟩
   ·rw [a4,ax];have hio:=bc a1;have hge:¬ bT y k<0:=by simpa using a2
    have hb:∀ z∈out.take i,bT z k<0:=fun z hz=>by
     obtain⟨j,hj⟩:=kg.1 hz;rw [qV] at hj;split at hj
     ·rename_i hji;simpa using a3 j z hji hj
     ·cases hj
    unfold kJ;rw [show ((i:Int)==(out.length:Int))=false from by simp; omega,cond_false,aZ,a1,ax];show Ok (e9 out (n:Int) k (i:Int) (!eo y k)) _;cases hq:eo y k
    ·rw [my];refine (j3 i (by omega) hb fun z hz=>?_).mono fun y hy=>by cases y <;> exact hy
     have hyk:bT k y<0:=by
      rcases tu y k with h | h | h
      ·exact absurd h hge
      ·exact absurd h (sA.1 hq)
      ·exact h
     obtain⟨j,hj⟩:=kg.1 hz;rw [sj] at hj;obtain⟨q1,q2⟩:=bN.1 hj;obtain⟨q3,q4⟩:=bN.1 a1;by_cases hj0:j=0
     ·subst hj0;rw [sh,a1] at hj;injection hj with hj;rw [← hj]; exact hyk
     ·have:=gG.1 h3.asc i (i+j) q3 q1 (by omega);rw [q4,q2] at this;exact km hyk this
    ·unfold e9 iH;rw [dh,cond_false,cJ (by omega)];exact ar ⟨hi,rfl,hi,stay (by rw [← iO.1 hq]; exact a6 a1)⟩
   ·rw [a2,ax];unfold kJ;rw [beq_self_eq_true,cond_true];refine (j3 out.length (cX _) (fun z hz=>?_) (fun z hz=>by rw [AH] at hz; cases hz)).mono fun y hy=>by cases y <;> exact hy
    rw [i6] at hz;simpa using a1 z hz
  ·rw [EG hi,cond_false];have:n=l.length:=by omega
   subst this;rw [i6] at h3;exact ar h3
 obtain⟨m,e,h⟩:=key;exact⟨m,e,h⟩
end
section
open Go.RowKit
open Go.Lib hiding intOf
instance QE:DecidableEq ah:=fun a b=>decidable_of_iff (eo a b=true) iO
inductive qH {α:Type} (E:α→α→Prop) (x:α):α→Prop
 | refl:qH E x x
 | snoc {y z:α}:qH E x y→E y z→qH E x z
def Ep {α:Type} (E:α→α→Prop) (x z:α):Prop:=∃ y,qH E x y∧E y z
theorem Ep.star {α:Type} {E:α→α→Prop} {x z:α} (h:Ep E x z):qH E x z:=by obtain⟨y,h1,h2⟩:=h; exact .snoc h1 h2
theorem qH.plus {α:Type} {E:α→α→Prop} {x z:α} (h:qH E x z) (hne:x≠z):Ep E x z:=by
 cases h with
 | refl=>exact absurd rfl hne
 | snoc h1 h2=>exact⟨_,h1,h2⟩
theorem pp {α:Type}:∀ {l m:List α},l.Nodup→(∀ x∈l,x∈m)→l.length≤m.length
 | [],m,_,_=>cR _
 | x::l,m,h,hs=>by
  have h':=yP.1 h;obtain⟨a,b,rfl⟩:=List.append_of_mem (hs x kh);have:=pp (l:=l) (m:=a++b) h'.2 fun y hy=>by
   have h1:=hs y (o8 _ hy);rw [dz,cz] at h1;rw [dz];rcases h1 with h1 | rfl | h1
   ·exact .inl h1
   ·exact absurd hy h'.1
   ·exact .inr h1
  simp only [gH,cS] at this ⊢;omega
theorem jk:∀ a b:ah,aL a b=true↔a=b:=fun a b=>iO (a:=a) (b:=b)
theorem Iy {m:List (ah×Bool)} {M:List ah} (h:∀ x,(cK aL x m).getD false=decide (x∈M)) (e:ah):∀ x,(cK aL x (eH aL e true m)).getD false=decide (x∈M++[e]):=fun x=>by
 rw [uN jk];by_cases hx:x=e
 ·subst hx; rw [if_pos ((jk _ _).2 rfl)]; simp
 ·rw [if_neg (fun h=>hx ((jk _ _).1 h)),h]; simp [hx]
section
variable {succ:ah→List ah} {filt:ah→Bool}
def En (succ:ah→List ah) (filt:ah→Bool) (T:List ah) (i g:Nat) (x r:ah):Prop :=
 ∃ j,T[j]? = some x∧filt r=true∧((j<i∧r∈succ x)∨(j=i∧r∈(succ x).take g))
theorem En.grow {T T':List ah} {i g:Nat} {x r:ah} (hi:i<T.length):En succ filt (T++T') i g x r↔En succ filt T i g x r:=by
 constructor
 ·rintro⟨j,h1,h2,h3⟩;rw [m6 (by omega)] at h1;exact⟨j,h1,h2,h3⟩
 ·rintro⟨j,h1,h2,h3⟩;exact⟨j,by rw [m6 (by omega)]; exact h1,h2,h3⟩
theorem En.step {T:List ah} {i g:Nat} {c e:ah} (hc:T[i]? = some c) (he:(succ c)[g]? = some e) {x r:ah}:En succ filt T i (g+1) x r↔En succ filt T i g x r∨(x=c∧r=e∧filt e=true):=by
 constructor
 ·rintro⟨j,h1,h2,h3 | ⟨rfl,h3⟩⟩
  ·exact .inl ⟨j,h1,h2,.inl h3⟩
  ·rw [hc] at h1;injection h1 with h1;subst h1;rw [b7 he,dz,eG] at h3;rcases h3 with h3 | rfl
   ·exact .inl ⟨j,hc,h2,.inr ⟨rfl,h3⟩⟩
   ·exact .inr ⟨rfl,rfl,h2⟩
 ·rintro (⟨j,h1,h2,h3 | ⟨rfl,h3⟩⟩|⟨rfl,rfl,h⟩)
  ·exact⟨j,h1,h2,.inl h3⟩
  ·rw [hc] at h1;injection h1 with h1;subst h1;exact⟨j,hc,h2,.inr ⟨rfl,by rw [b7 he]; exact qC _ h3⟩⟩
  ·exact⟨i,hc,h,.inr ⟨rfl,by rw [b7 he]; simp⟩⟩
theorem En.next {T:List ah} {i:Nat} {c:ah} (hc:T[i]? = some c) {x r:ah}:En succ filt T i (succ c).length x r↔En succ filt T (i+1) 0 x r:=by
 constructor
 ·rintro⟨j,h1,h2,h3 | ⟨rfl,h3⟩⟩
  ·exact⟨j,h1,h2,.inl ⟨by omega,h3.2⟩⟩
  ·rw [hc] at h1;injection h1 with h1;subst h1;rw [i6] at h3;exact⟨j,hc,h2,.inl ⟨by omega,h3⟩⟩
 ·rintro⟨j,h1,h2,h3 | ⟨rfl,h3⟩⟩
  ·by_cases hj:j=i
   ·subst hj;rw [hc] at h1;injection h1 with h1;subst h1;exact⟨j,hc,h2,.inr ⟨rfl,by rw [i6]; exact h3.2⟩⟩
   ·exact⟨j,h1,h2,.inl ⟨by omega,h3.2⟩⟩
  ·simp at h3
structure WL (succ:ah→List ah) (filt:ah→Bool) (Rch:ah→Prop) (pre:List ah) (seen:List (ah×Bool)) (M:List ah) (i g:Nat):Prop where
 nd:M.Nodup
 see:∀ x,(cK aL x seen).getD false=decide (x∈M)
 rch:∀ x∈M,Rch x
 con:∀ x r,En succ filt (pre++M) i g x r→r∈M
variable {Rch:ah→Prop} {pre:List ah} {seen:List (ah×Bool)} {M:List ah} {i g:Nat} {c e:ah}
theorem WL.skip (h:WL succ filt Rch pre seen M i g) (hc:(pre++M)[i]? = some c) (he:(succ c)[g]? = some e) (hf:filt e=false):WL succ filt Rch pre seen M i (g+1) :=
 ⟨h.nd,h.see,h.rch,fun x r hx=>by
  rcases (En.step hc he).1 hx with h1 | ⟨_,_,h1⟩
  ·exact h.con x r h1
  ·rw [hf] at h1; cases h1⟩
theorem WL.old (h:WL succ filt Rch pre seen M i g) (hc:(pre++M)[i]? = some c) (he:(succ c)[g]? = some e) (hm:e∈M):WL succ filt Rch pre seen M i (g+1) :=
 ⟨h.nd,h.see,h.rch,fun x r hx=>by
  rcases (En.step hc he).1 hx with h1 | ⟨_,rfl,_⟩
  ·exact h.con x r h1
  ·exact hm⟩
theorem WL.new (h:WL succ filt Rch pre seen M i g) (hc:(pre++M)[i]? = some c) (he:(succ c)[g]? = some e) (hm:e ∉ M) (hr:Rch e):WL succ filt Rch pre (eH aL e true seen) (M++[e]) i (g+1) :=
 ⟨List.nodup_append.2 ⟨h.nd,by simp,fun a ha b hb e2=>by rw [eG] at hb; subst hb e2; exact hm ha⟩,Iy h.see e,fun x hx=>by
  rcases dz.1 hx with hx | hx
  ·exact h.rch x hx
  ·rw [eG] at hx; subst hx; exact hr,fun x r hx=>by
  have hi:i<(pre++M).length:=(bN.1 hc).1;rw [← AU,En.grow hi] at hx;rcases (En.step hc he).1 hx with h1 | ⟨_,rfl,_⟩
  ·exact qC _ (h.con x r h1)
  ·simp⟩
theorem WL.next (h:WL succ filt Rch pre seen M i g) (hc:(pre++M)[i]? = some c) (hg:g=(succ c).length):WL succ filt Rch pre seen M (i+1) 0 :=
 ⟨h.nd,h.see,h.rch,fun x r hx=>h.con x r (by subst hg; exact (En.next hc).2 hx)⟩
theorem WL.fin (h:WL succ filt Rch pre seen M i g) (hi:(pre++M).length≤i) {x r:ah} (hx:x∈pre++M) (hr:r∈succ x) (hf:filt r=true):r∈M:=by
 obtain⟨j,hj⟩:=kg.1 hx;exact h.con x r ⟨j,hj,hf,.inl ⟨by have:=(bN.1 hj).1; omega,hr⟩⟩
end
section
variable {rd:ah→List ah} {op:ah→Bool} {k:ah}
def Eg (rd:ah→List ah) (op:ah→Bool) (x y:ah):Prop:=op x=true∧y∈rd x∧op y=true
theorem Ks (hk:op k=true) {x:ah} (h:qH (Eg rd op) k x):op x=true:=by
 cases h with
 | refl=>exact hk
 | snoc _ e=>exact e.2.2
end
def rJ (k:ah):Bool:=decide (k.Kind=32)||(decide (k.Kind=7)||decide (k.Kind=14)||decide (k.Kind=17)||decide (k.Kind=18))
theorem gR (k:ah):cN k=some (rJ k):=by
 unfold cN q8 rJ f5 f0;have hb:∀ n:Int,((k.Kind:Int)==n)=decide (k.Kind=n):=fun n=>by rw [Bool.eq_iff_iff]; simp
 rw [hb,hb,hb,hb,hb];by_cases h32:k.Kind=32
 ·simp [h32]
 ·by_cases h7:k.Kind=7
  ·simp [h7]
  ·by_cases h14:k.Kind=14
   ·simp [h14]
   ·by_cases h17:k.Kind=17
    ·simp [h17]
    ·by_cases h18:k.Kind=18
     ·simp [h18]
     ·simp only [h32,h7,h14,h17,h18,decide_false,Bool.or_false,cond_false];cases decide ((1:Int)≤k.Kind) <;> cases decide ((k.Kind:Int)≤22) <;> rfl
def In (r:aw) (rev:Int):Bool:=rJ r.Key&&decide (r.Verified<rev) && !r.Dirty
theorem Ip (r:aw) (rev:Int):In r rev=(rJ r.Key&&decide (r.Verified<rev) && !r.Dirty):=rfl
noncomputable def C3 (l:List aw) (rev:Int) (k:ah):Bool:=(cM l k).2&&In (cM l k).1 rev
def BK (l:List aw) (k:ah):List ah:=(cM l k).1.Reads
theorem kR {l:List aw} {k:ah} (h:(cM l k).2=true):(cM l k).1∈l∧(cM l k).1.Key=k:=by
 unfold cM at *;cases hf:l.find? (fun r=>eo r.Key k) with
 | none=>rw [hf] at h; cases h
 | some r =>
  have h2:=List.find?_some hf;exact⟨List.mem_of_find?_eq_some hf,iO.1 h2⟩
theorem vm {l:List aw} {k:ah} (h:(cM l k).2=false):cM l k=(PQ,false)∧∀ r∈l,r.Key≠k:=by
 unfold cM at *;cases hf:l.find? (fun r=>eo r.Key k) with
 | none =>
  refine⟨rfl,fun r hr e=>?_⟩;have:=AK.1 hf r hr;exact this (iO.2 e)
 | some r=>rw [hf] at h; cases h
theorem Cz {l:List aw} {rev:Int} {k:ah} (h:C3 l rev k=true):k∈l.map aw.Key:=by
 unfold C3 at h;simp only [so] at h;obtain⟨h1,h2⟩:=kR h.1;exact gq.2 ⟨_,h1,h2⟩
theorem wH {l:List aw} (hl:Jg l) (rev:Int) (k:ah):pz l rev k=some (C3 l rev k):=by
 unfold pz jg;rw [ub hl,ax];cases hf:(cM l k).2 with
 | false=>simp [C3,hf]
 | true =>
  have hk:=(kR hf).2;unfold C3;rw [hf,Ip,hk,cond_true,gR,ax];cases rJ k <;> cases decide (((cM l k).1.Verified:Int)<rev) <;> rfl
structure Gh (l:List aw):Prop where
 asc:Fg l
 len:l.length≤1000
 rds:∀ r∈l,r.Reads.length≤1000
theorem Gh.rm {l:List aw} (h:Gh l):Jg l:=⟨by have:=h.len; unfold Rm; omega,fun r hr=>by have:=h.rds r hr; unfold Rm; omega⟩
theorem Gh.rd {l:List aw} (h:Gh l) (k:ah):(BK l k).length≤1000:=by
 unfold BK;cases hf:(cM l k).2 with
 | true=>exact h.rds _ (kR hf).1
 | false=>rw [(vm hf).1]; exact cR _
noncomputable abbrev Ek (l:List aw) (rev:Int):=Eg (BK l) (C3 l rev)
def O3 (l:List aw) (rev:Int) (k:ah) (m:List ah):Prop:=ut m∧∀ x,x∈m↔qH (Ek l rev) k x∧qH (Ek l rev) x k
section
variable {l:List aw} (hl:Gh l) {rev:Int} {k:ah} (hk:C3 l rev k=true)
theorem u6 (hk:C3 l rev k=true) {x:ah} (h:qH (Ek l rev) k x):C3 l rev x=true:=Ks hk h
abbrev B1 (l:List aw) (rev:Int) (k:ah) (seen:List (ah×Bool)) (M:List ah) (i g:Nat):Prop:=WL (BK l) (C3 l rev) (Ep (Ek l rev) k) [k] seen M i g
theorem B1.len {seen:List (ah×Bool)} {M:List ah} {i g:Nat} (h:B1 l rev k seen M i g):M.length≤l.length:=by
 have:=pp (m:=l.map aw.Key) h.nd fun x hx=>by
  obtain⟨y,_,e⟩:=h.rch x hx;exact Cz e.2.2
 rwa [qR] at this
include hl hk in
theorem Ia {seen:List (ah×Bool)} {M:List ah} {i:Nat} {c:ah} (hc:([k]++M)[i]? = some c) (h:B1 l rev k seen M i 0) :
  Ok (loop (fun s:(List (ah×Bool))×(List ah)×Int=>fU l rev (cM l c) s.1 s.2.1 s.2.2) (seen,[k]++M,0)) fun r=>∃ M',r.2=[k]++M'∧B1 l rev k r.1 M' (i+1) 0∧i<([k]++M').length:=by
 have hcs:qH (Ek l rev) k c:=by
  cases i with
  | zero=>simp at hc; subst hc; exact .refl
  | succ i =>
   rw [o5 (by simp)] at hc;exact (h.rch c (a6 hc)).star
 have hcop:=u6 hk hcs;have hrl:=hl.rd c;have hll:=hl.len;refine ro (B:=fun s:(List (ah×Bool))×(List ah)×Int=>fU l rev (cM l c) s.1 s.2.1 s.2.2)
  (fun g s=>s.2.2=(g:Int)∧∃ M',s.2.1=[k]++M'∧B1 l rev k s.1 M' i g∧([k]++M')[i]? = some c) _ (BK l c).length ?_ ?_ ⟨rfl,M,rfl,h,hc⟩
 ·rintro g ⟨sn,L,gi⟩ hg ⟨rfl,M',rfl,hA,hLc⟩;dsimp only at hA hLc ⊢;have hge:(BK l c)[g]? = some (BK l c)[g]:=bS hg;have hlen:=B1.len hA;have hLi:i<([k]++M').length:=(bN.1 hLc).1;refine .inl ?_;have hgu:(cM l c).1.Reads=BK l c:=rfl;unfold fU;rw [hgu,dlt hg,cond_true,aZ,hge,ax];generalize (BK l c)[g]=e at hge;rw [wH hl.rm,ax];unfold lP lO;rw [cJ (by omega)];cases hf:C3 l rev e with
  | false=>exact⟨_,rfl,rfl,M',rfl,hA.skip hLc hge hf,hLc⟩
  | true =>
   have hEg:Ek l rev c e:=⟨hcop,a6 hge,hf⟩;rw [cond_true,hA.see e,ax];by_cases hm:e∈M'
   ·rw [decide_eq_true hm];exact⟨_,rfl,rfl,M',rfl,hA.old hLc hge hm,hLc⟩
   ·rw [decide_eq_false hm];simp only [my,cond_true];rw [gd,dX (by simp only [qQ,cS]; omega),cond_true];refine⟨_,rfl,rfl,M'++[e],by simp,hA.new hLc hge hm ⟨c,hcs,hEg⟩,?_⟩;rw [← AU,m6 hLi]; exact hLc
 ·rintro⟨sn,L,gi⟩ ⟨rfl,M',rfl,hA,hLc⟩;dsimp only at hA hLc ⊢;have hend:fU l rev (cM l c) sn ([k]++M') ((BK l c).length:Int)=some (.out (sn,[k]++M')):=by
   unfold fU;rw [show (cM l c).1.Reads=BK l c from rfl,bA]; rfl
  exact⟨_,hend,M',rfl,hA.next hLc rfl,(bN.1 hLc).1⟩
include hl hk in
theorem DC:Ok (nY l rev k) fun m=>∀ x,(cK aL x m).getD false=true↔Ep (Ek l rev) k x:=by
 have hll:=hl.len;have h0:B1 l rev k [] [] 0 0:=⟨List.nodup_nil,fun x=>by simp [cK],fun x hx=>by simp at hx,fun x r h=>by
  obtain⟨j,h1,h2,h3 | ⟨_,h3⟩⟩:=h
  ·omega
  ·simp at h3⟩
 have fin:∀ {sn M i},B1 l rev k sn M i 0→([k]++M).length≤i→∀ x,(cK aL x sn).getD false=true↔Ep (Ek l rev) k x:=by
  intro sn M i hA hL x;rw [hA.see,decide_eq_true_iff];refine⟨hA.rch x,?_⟩;rintro⟨y,hy,e⟩;have hall:∀ z,qH (Ek l rev) k z→z∈[k]++M:=fun z hz=>by
   induction hz with
   | refl=>simp
   | snoc _ e ih=>exact wh _ (hA.fin hL ih e.2.1 e.2.2)
  exact hA.fin hL (hall y hy) e.2.1 e.2.2
 unfold nY oE;refine aQ (Q:=fun m=>∀ x,(cK aL x m).getD false=true↔Ep (Ek l rev) k x) ?_ fun m hm=>ar hm;refine ro (B:=fun s:(List (ah×Bool))×(List ah)×Int=>ij l rev s.1 s.2.1 s.2.2)
  (fun i s=>s.2.2=(i:Int)∧∃ M,s.2.1=[k]++M∧B1 l rev k s.1 M i 0∧i≤([k]++M).length) _ (l.length+1) ?_ ?_ ⟨rfl,[],rfl,h0,cR _⟩
 ·rintro i ⟨sn,L,ii⟩ hi ⟨rfl,M,rfl,hA,hiL⟩;dsimp only at hA hiL ⊢;by_cases hlt:i<([k]++M).length
  ·refine .inl ?_;have hc:([k]++M)[i]? = some ([k]++M)[i]:=bS hlt;obtain⟨⟨s2,L2⟩,e2,M',rfl,h2,h3⟩:=Ia hl hk hc hA;refine⟨(s2,[k]++M',((i+1:Nat):Int)),?_,rfl,M',rfl,h2,h3⟩;unfold ij lN;rw [dlt hlt,cond_true,aZ,hc,ax,ub hl.rm,ax,e2,ax,cJ (by omega)]
  ·refine .inr ⟨sn,?_,fin hA (by omega)⟩;unfold ij;rw [EG hlt]; rfl
 ·rintro⟨sn,L,ii⟩ ⟨rfl,M,rfl,hA,hiL⟩;dsimp only at hA hiL ⊢;have hlen:=B1.len hA;have hlen2:([k]++M).length≤l.length+1:=by rw [cS,qQ]; omega
  refine⟨sn,?_,fin hA hlen2⟩;unfold ij;rw [EG (by omega)]; rfl
include hl hk in
theorem IC:Ok (mR l rev k) (O3 l rev k):=by
 have hll:=hl.len;unfold mR;rw [wH hl.rm,ax,hk];simp only [dh,cond_false];refine aQ (DC hl hk) fun tm htm=>?_;unfold sE;refine aQ (Q:=fun out=>out.length≤1001∧∀ x,x∈out↔qH (Ek l rev) k x∧qH (Ek l rev) x k) ?_ fun out ⟨h1,h2⟩=>?_
 ·refine ro (B:=fun s:(List ah)×Int=>nX l rev k tm s.1 s.2)
   (fun i s=>s.2=(i:Int)∧s.1.length≤i+1∧∀ x,x∈s.1↔x=k∨(∃ r∈l.take i,r.Key=x)∧qH (Ek l rev) k x∧qH (Ek l rev) x k) _ l.length ?_ ?_ ⟨rfl,by simp,fun x=>by simp⟩
  ·rintro i ⟨out,ii⟩ hi ⟨rfl,hlen,hm⟩;dsimp only at hlen hm ⊢;refine .inl ?_;have hr:l[i]? = some l[i]:=bS hi;generalize l[i]=r at hr;have hkeep:¬ (r.Key≠k∧qH (Ek l rev) k r.Key∧qH (Ek l rev) r.Key k)→∀ x,x∈out↔x=k∨(∃ r∈l.take (i+1),r.Key=x)∧qH (Ek l rev) k x∧qH (Ek l rev) x k:=fun hn x=>by
    rw [hm,b7 hr];constructor
    ·rintro (h | ⟨⟨r',h1,h2⟩,h3⟩)
     ·exact .inl h
     ·exact .inr ⟨⟨r',qC _ h1,h2⟩,h3⟩
    ·rintro (h | ⟨⟨r',h1,h2⟩,h3⟩)
     ·exact .inl h
     ·rcases dz.1 h1 with h1 | h1
      ·exact .inr ⟨⟨r',h1,h2⟩,h3⟩
      ·rw [eG] at h1;subst h1 h2;by_cases hx:r'.Key=k
       ·exact .inl hx
       ·exact absurd ⟨hx,h3⟩ hn
   have hadd:qH (Ek l rev) k r.Key→qH (Ek l rev) r.Key k→∀ x,x∈out++[r.Key]↔x=k∨(∃ r∈l.take (i+1),r.Key=x)∧qH (Ek l rev) k x∧qH (Ek l rev) x k:=fun ha hb x=>by
    rw [dz,hm,b7 hr,eG];constructor
    ·rintro ((h | ⟨⟨r',h1,h2⟩,h3⟩) | rfl)
     ·exact .inl h
     ·exact .inr ⟨⟨r',qC _ h1,h2⟩,h3⟩
     ·exact .inr ⟨⟨r,by simp,rfl⟩,ha,hb⟩
    ·rintro (h | ⟨⟨r',h1,h2⟩,h3⟩)
     ·exact .inl (.inl h)
     ·rcases dz.1 h1 with h1 | h1
      ·exact .inl (.inr ⟨⟨r',h1,h2⟩,h3⟩)
      ·rw [eG] at h1;subst h1 h2; exact .inr rfl
   unfold nX nW qq;rw [dlt hi,cond_true,aZ,hr,ax,cJ (by omega)];show ∃ s',cond (!(eo r.Key k)) _ _=_∧_;by_cases hx:r.Key=k
   ·rw [iO.2 hx];exact⟨_,rfl,rfl,by dsimp only; omega,hkeep fun h=>h.1 hx⟩
   ·rw [sA.2 hx];simp only [my,cond_true,ax];cases ht:(cK aL r.Key tm).getD false with
    | false =>
     refine⟨_,rfl,rfl,by dsimp only; omega,hkeep fun h=>?_⟩;have:=(htm r.Key).2 (h.2.1.plus (fun e=>hx e.symm));rw [ht] at this; cases this
    | true =>
     have hp:=(htm r.Key).1 ht;obtain⟨m2,e2,h2⟩:=DC hl (u6 hk hp.star);rw [cond_true,e2,ax];cases ht2:(cK aL k m2).getD false with
     | false =>
      refine⟨_,rfl,rfl,by dsimp only; omega,hkeep fun h=>?_⟩;have:=(h2 k).2 (h.2.2.plus hx);rw [ht2] at this; cases this
     | true =>
      have hp2:=(h2 k).1 ht2;rw [cond_true,gd,dX (by simp only [qQ]; omega),cond_true];exact⟨_,rfl,rfl,by simp only [cS,qQ]; omega,hadd hp.star hp2.star⟩
  ·rintro⟨out,ii⟩ ⟨rfl,hlen,hm⟩;dsimp only at hlen hm ⊢;refine⟨out,by unfold nX; rw [bA]; rfl,by omega,fun x=>(hm x).trans ?_⟩;rw [i6];constructor
   ·rintro (rfl | ⟨_,h⟩)
    ·exact⟨.refl,.refl⟩
    ·exact h
   ·intro h;by_cases hx:x=k
    ·exact .inl hx
    ·obtain⟨r,hr,e⟩:=gq.1 (Cz (u6 hk h.1));exact .inr ⟨⟨r,hr,e⟩,h⟩
 ·obtain⟨m,e,hm⟩:=s6 (l:=out) (by unfold Rm; omega);rw [e];exact ar ⟨hm.asc,fun x=>(hm.mem x).trans (h2 x)⟩
end
theorem O3.len {l:List aw} (hl:Gh l) {rev:Int} {k:ah} (hk:C3 l rev k=true) {m:List ah} (h:O3 l rev k m):m.length≤1000:=by
 have hn:m.Nodup:=AN (fun {a b} h=>pI h) h.1;have:=pp (m:=l.map aw.Key) hn fun x hx=>Cz (u6 hk ((h.2 x).1 hx).1);rw [qR] at this;exact fB this hl.len
def Hw (l:List aw) (g:List ah) (m:ah):List dg:=((BK l m).filter fun x=>!(g.any fun y=>eo x y)).map fun x=>⟨m,x⟩
def fV (l:List aw) (g h:List ah):List dg:=h.flatMap (Hw l g)
theorem Hx {l:List aw} (hl:Gh l) (g:List ah) (m:ah):(Hw l g m).length≤1000:=by
 unfold Hw;rw [qR];exact fB (uf _ _) (hl.rd m)
theorem sv {l:List aw} (hl:Gh l) (g:List ah):∀ h:List ah,(fV l g h).length≤h.length*1000
 | []=>cR _
 | m::h=>by
  have:=sv hl g h;have:=Hx hl g m;unfold fV at *;rw [CV,cS,gH]; omega
theorem Bt {l:List aw} (hl:Gh l) {g:List ah} (hg:g.length≤2000):iV l g=some (fV l g g):=by
 unfold iV nj;refine gr (cD (xs:=g) (fun k=>(fV l g (g.take k),(k:Int))) rfl (r:=fV l g g) (fun k m hm=>?_) ?_) rfl
 ·have hk:=bc hm;have hc:=sv hl g (g.take k);have hct:(g.take k).length≤2000:=by rw [fe]; omega
  unfold kM nk;dsimp only;rw [cU hm,cond_true,aZ,hm,ax,ub hl.rm,ax,cJ (by omega)];have hin:loop (fun s:List dg×Int=>iI g m (cM l m) s.1 s.2) (fV l g (g.take k),0)=some (fV l g (g.take k)++Hw l g m):=by
   have hrl:=hl.rd m;refine cD (xs:=BK l m) (fun i=>(fV l g (g.take k)++(((BK l m).take i).filter fun x=>!(g.any fun y=>eo x y)).map (fun x=>(⟨m,x⟩:dg)),(i:Int))) (by simp) (fun i x hx=>?_) ?_
   ·have hi:=bc hx;unfold iI kL;dsimp only;rw [show (cM l m).1.Reads=BK l m from rfl,cU hx,cond_true,aZ,hx,ax,yi (by unfold Rm; omega),ax,cJ (by omega),b7 hx,lh,ur];have hpl:((((BK l m).take i).filter fun x=>!(g.any fun y=>eo x y)).map (fun x=>(⟨m,x⟩:dg))).length≤1000:=by
     rw [qR];exact fB (ul _ _ _) hrl
    cases hh:g.any fun y=>eo x y with
    | true=>simp [hh]
    | false =>
     simp only [my,cond_true];rw [gd,dX (by simp only [cS,qQ]; omega),cond_true];simp [hh]
   ·unfold iI;dsimp only;rw [show (cM l m).1.Reads=BK l m from rfl,bA,i6]; rfl
  rw [hin,ax,b7 hm];unfold fV;rw [List.flatMap_append,List.flatMap_singleton]
 ·unfold kM;dsimp only;rw [bA,i6]; rfl
end
section
open Go.RowKit
open Go.Lib hiding intOf
noncomputable def rk (l:List aW) (n:Nat):ah:=⟨if (bG l)[n]? = some true then 32 else 31,cZ n⟩
section
variable {l:List aW} {n a b:Nat}
theorem Bz (ha:a<65536) (hb:b<65536) (h:cZ (a:Int)=cZ b):a=b:=by
 have h1:=xB ha;rw [h,xB hb] at h1;omega
theorem Ap (ha:a<100) (hb:b<100) (h:rk l a=rk l b):a=b:=Bz (by omega) (by omega) (congrArg ah.Text h)
theorem IG (h:n<l.length):rk l n=FU l[n] n:=by
 unfold rk FU;rw [qx h];cases l[n].Ring <;> simp
theorem Ar (h:n<l.length) (hl:l.length≤100):lG l n=some (rk l n):=by rw [IG h]; exact GT h (by omega)
theorem rh:(rk l n).Kind=31∧(bG l)[n]? ≠ some true∨(rk l n).Kind=32∧(bG l)[n]? = some true:=by
 unfold rk;by_cases h:(bG l)[n]? = some true
 ·exact .inr ⟨by simp [h],h⟩
 ·exact .inl ⟨by simp [h],h⟩
theorem DJ (h:n<100):A6 99 (cZ (n:Int)).toList=n:=by
 unfold A6;rw [pj,ol,zH (by omega),if_pos (by omega)]
theorem Aq (h:n<100):A7 (rk l n)=n:=by
 unfold A7;rw [if_pos (by rcases rh (l:=l) (n:=n) with⟨h,_⟩|⟨h,_⟩ <;> rw [h] <;> decide)];exact DJ h
theorem Hs (h:n<100):A7 (bz n)=n:=by
 unfold A7;rw [if_pos ⟨by show (30:Int)≤30; omega,by show (30:Int)≤32; omega⟩];exact DJ h
theorem oh (k:ah):cr k=some (decide (k.Kind=1)||(decide (k.Kind=2)||decide (k.Kind=30))):=by
 unfold cr jL;by_cases h1:k.Kind=1
 ·simp [h1]
 ·by_cases h2:k.Kind=2
  ·simp [h2]
  ·by_cases h3:k.Kind=30
   ·simp [h3]
   ·have hb:∀ n:Int,k.Kind≠n→(k.Kind==n)=false:=fun n h=>by simpa using h
    rw [hb 1 h1,hb 2 h2,hb 30 h3];simp [h1,h2,h3]
theorem xv:cr (rk l n)=some false:=by
 rw [oh];rcases rh (l:=l) (n:=n) with⟨h,_⟩|⟨h,_⟩ <;> rw [h] <;> rfl
theorem nA:cr (bz n)=some true:=by rw [oh]; rfl
theorem FQ:rJ (rk l n)=decide ((bG l)[n]? = some true):=by
 unfold rJ;rcases rh (l:=l) (n:=n) with⟨h,k⟩|⟨h,k⟩
 ·rw [h,decide_eq_false k]; rfl
 ·rw [h,decide_eq_true k]; rfl
theorem Gt:rJ (bz n)=false:=rfl
theorem Fq:bz a≠rk l b:=fun h=>by
 have h30:(30:Int)=(rk l b).Kind:=congrArg ah.Kind h;rcases rh (l:=l) (n:=b) with⟨h,_⟩|⟨h,_⟩ <;> rw [h] at h30 <;> omega
theorem BT {k:ah} (h:30≤k.Kind∧k.Kind≤32):cE k=some (decide (0≤A7 k)):=by
 unfold cE fG;rw [decide_eq_true h.1,decide_eq_true h.2,cond_true,cond_true,pD];rfl
theorem DR (h:n<100):cE (rk l n)=some true:=by
 rw [BT (by rcases rh (l:=l) (n:=n) with⟨h,_⟩|⟨h,_⟩ <;> rw [h] <;> decide),Aq h,decide_eq_true (by omega)]
theorem rF (h:n<100):cE (bz n)=some true:=by
 rw [BT (k:=bz n) ⟨by show (30:Int)≤30; omega,by show (30:Int)≤32; omega⟩,Hs h,decide_eq_true (by omega)]
def o9 (l:List aW) (k:ah):Prop:=(∃ c,c<10∧k=bz c)∨∃ n,n<l.length∧k=rk l n
theorem o9.valid (hl:l.length≤8) {k:ah} (h:o9 l k):cE k=some true:=by
 rcases h with⟨c,hc,rfl⟩|⟨n,hn,rfl⟩
 ·exact rF (by omega)
 ·exact DR (by omega)
theorem z8 (h:n<l.length):C2 (bG l) n≤l.length:=by
 unfold C2;split
 ·have:=(Hn (rs:=bG l) (n:=n) (by unfold bG; rwa [qR])).2.2;unfold bG at this ⊢;rwa [qR] at this
 ·omega
noncomputable def tg (x:dA) (ls:List ByteArray):Int:=if x.Pick=true∧(ls.length=0∨gS (ls.getD (ls.length-1) ⟨#[]⟩) % 2=0) then x.Else else x.N
noncomputable def tf (l:List aW) (x:dA) (ls:List ByteArray):ah:=if x.Cell=true then bz (tg x ls).toNat else rk l (tg x ls).toNat
theorem p8 (hR:bX l) {r:aW} (h:l[n]? = some r) {k:Nat} {x:dA} (hx:r.Asks[k]? = some x) (ls:List ByteArray) :
  0≤tg x ls∧((x.Cell=true∧∃ c,c<10∧(tg x ls)=(c:Nat)∧tf l x ls=bz c)∨(x.Cell=false∧∃ j,j<C2 (bG l) n∧(tg x ls)=(j:Nat)∧tf l x ls=rk l j)):=by
 have hA:=(hR.each n r h).each k x hx;have h0:0≤tg x ls:=by unfold tg; split; exact hA.low2; exact hA.low
 refine⟨h0,?_⟩;cases hc:x.Cell with
 | true =>
  have:tg x ls<4:=by unfold tg; split; exact hA.cell2 hc; exact hA.cell hc
  exact .inl ⟨rfl,(tg x ls).toNat,by omega,by omega,by unfold tf; rw [if_pos hc]⟩
 | false =>
  have:tg x ls<C2 (bG l) n:=by unfold tg; split; exact hA.rule2 hc; exact hA.rule hc
  exact .inr ⟨rfl,(tg x ls).toNat,by omega,by omega,by unfold tf; rw [if_neg (by rw [hc]; simp)]⟩
theorem DU (hR:bX l) {r:aW} (h:l[n]? = some r) {ls:List ByteArray} (hn:r.Asks.length≤ls.length) :
  g9 l (rk l n) ls=some ⟨true,cZ (uH r (ls.take r.Asks.length)),⟨0,⟨#[]⟩⟩⟩:=by
 have hlt:=bc h;have h8:=hR.high;have h3:=(hR.each n r h).asks;have hC:0≤r.C∧r.C≤65535:=by
  have hr:=hR.each n r h;cases hg:r.Ring with
  | true=>have:=hr.ring hg; omega
  | false=>have:=hr.plain hg; omega
 obtain⟨m,hm,hm2⟩:=wu hR h (ls:=ls.take r.Asks.length) (by rw [fe]; omega);unfold g9;rw [pD,ax,Aq (by omega),decide_eq_false (by omega),cond_false,decide_eq_false (by omega),cond_false,Ar hlt (by omega),ax];rw [show (!((rk l n).Kind==(rk l n).Kind&&(rk l n).Text.toList==(rk l n).Text.toList))=false by simp,cond_false,aZ,h,ax,decide_eq_true (by omega),cond_true];rw [pF (by omega),ax,HQ hC (by rw [fe]; omega),ax,hm,rn (by omega),ax]
theorem E5 (hR:bX l) {r:aW} (h:l[n]? = some r) {ls:List ByteArray} {x:dA} (hx:r.Asks[ls.length]? = some x) :
  g9 l (rk l n) ls=some ⟨false,⟨#[]⟩,tf l x ls⟩:=by
 have hlt:=bc h;have hla:=bc hx;have h8:=hR.high;have h3:=(hR.each n r h).asks;have hA:=(hR.each n r h).each _ x hx;obtain⟨g0,hg⟩:=p8 hR h hx ls;have hll:=z8 hlt;have j1:∀ z:Int,z=tg x ls→kZ l x z=some ⟨false,⟨#[]⟩,tf l x ls⟩:=by
  rintro _ rfl;unfold kZ;rcases hg with⟨hc,c,h4,e1,e2⟩|⟨hc,j,h4,e1,e2⟩
  ·rw [hc,cond_true,e1,kq (by omega),ax,e2]
  ·rw [hc,cond_false,e1,Ar (by omega) (by omega),ax,e2]
 unfold g9;rw [pD,ax,Aq (by omega),decide_eq_false (by omega),cond_false,decide_eq_false (by omega),cond_false,Ar hlt (by omega),ax];rw [show (!((rk l n).Kind==(rk l n).Kind&&(rk l n).Text.toList==(rk l n).Text.toList))=false by simp,cond_false,aZ,h,ax,decide_eq_false (by omega),cond_false,aZ,hx,ax];unfold k5;cases hp:x.Pick with
 | false=>exact j1 _ (by unfold tg; rw [if_neg (by rw [hp]; simp)])
 | true =>
  obtain⟨_,hk⟩:=hA.pick hp;rw [cond_true,show (((ls.length:Nat):Int)==0)=false from beq_eq_false_iff_ne.2 (by omega),cond_false];have hw:IntKind.i64.wrap ((ls.length:Int)-1)=((ls.length-1:Nat):Int):=by rw [pX (by omega) (by omega)]; omega
  have hg2:=bS (l:=ls) (i:=ls.length-1) (by omega);rw [hw,aZ,hg2,ax,DX,ax];have hv:=ji ls[ls.length-1];have hd:ls.getD (ls.length-1) ⟨#[]⟩=ls[ls.length-1]:=by rw [Jd,hg2]; rfl
  have ht:Int.tmod (gS ls[ls.length-1]) 2=gS ls[ls.length-1] % 2:=Int.tmod_eq_emod_of_nonneg (by omega);by_cases hz:gS ls[ls.length-1] % 2=0
  ·rw [ht,hz];exact j1 _ (by unfold tg; rw [if_pos ⟨hp,.inr (by rw [hd]; exact hz)⟩])
  ·rw [ht,show (gS ls[ls.length-1] % 2==0)=false by simpa using hz];exact j1 _ (by unfold tg; rw [if_neg (by rw [hd]; rintro⟨_,h | h⟩; exact absurd h (by omega); exact hz h)])
theorem I1 (k:ah) (hk:k.Kind=31∨k.Kind=32) (ls:List ByteArray):ey l k ls=g9 l k ls:=by
 unfold ey;rcases hk with h | h
 ·rw [h]; cases g9 l k ls <;> rfl
 ·rw [h]; cases g9 l k ls <;> rfl
theorem DQ:(rk l n).Kind=31∨(rk l n).Kind=32:=by rcases rh (l:=l) (n:=n) with⟨h,_⟩|⟨h,_⟩; exact .inl h; exact .inr h
theorem ym (hR:bX l) {r:aW} (h:l[n]? = some r) {ls:List ByteArray} (hn:r.Asks.length≤ls.length) :
  ey l (rk l n) ls=some ⟨true,cZ (uH r (ls.take r.Asks.length)),⟨0,⟨#[]⟩⟩⟩:=(I1 _ DQ _).trans (DU hR h hn)
theorem Ay (hR:bX l) {r:aW} (h:l[n]? = some r) {ls:List ByteArray} {x:dA} (hx:r.Asks[ls.length]? = some x) :
  ey l (rk l n) ls=some ⟨false,⟨#[]⟩,tf l x ls⟩:=(I1 _ DQ _).trans (E5 hR h hx)
end
end
section
open Go.RowKit
open Go.Lib hiding intOf
section
variable {rs:List Bool}
theorem FK:∀ {a j:Nat},ZZ rs a≤j→j<a→rs[j]? = some true
 | 0,_,_,h=>absurd h (by omega)
 | a+1,j,h1,h2=>by
  rw [Cv] at h1;split at h1
  ·rename_i h;rcases kP j a with h3 | h3
   ·exact FK h1 h3
   ·have:j=a:=by omega
    rw [this]; exact h
  ·omega
theorem Ib {a:Nat}:∀ {j:Nat},a≤j→(∀ i,a≤i→i<j→rs[i]? = some true)→ZZ rs j≤a
 | 0,h,_=>by have:=BD rs 0; omega
 | j+1,h,hr=>by
  rcases kP j a with h3 | h3
  ·have:=BD rs (j+1); omega
  ·rw [Cv,if_pos (hr j h3 (by omega))];exact Ib h3 fun i h1 h2=>hr i h1 (by omega)
theorem Dq:∀ {f b j:Nat},b≤j→j<GG rs f b→rs[j]? = some true
 | 0,b,j,h1,h2=>by have:GG rs 0 b=b:=rfl; omega
 | f+1,b,j,h1,h2=>by
  rw [Ds] at h2;split at h2
  ·rename_i h;rcases Nat.eq_or_lt_of_le h1 with h3 | h3
   ·rw [← h3]; exact h
   ·exact Dq h3 h2
  ·omega
def uy (rs:List Bool) (n:Nat):Nat:=(blk rs n).1
theorem vB {n:Nat} (h:rs[n]? ≠ some true):uy rs n=n:=by unfold uy blk; rw [if_neg h]
theorem xw {n:Nat} (h:rs[n]? = some true):uy rs n=ZZ rs n:=by unfold uy blk; rw [if_pos h]
theorem IH (n:Nat):uy rs n≤n:=by
 by_cases h:rs[n]? = some true
 ·rw [xw h]; exact BD rs n
 ·rw [vB h]; omega
theorem Dc {n j:Nat} (h:rs[n]? = some true) (h1:ZZ rs n≤j) (h2:j<C2 rs n):rs[j]? = some true:=by
 unfold C2 at h2;rw [if_pos h] at h2;unfold blk at h2;rw [if_pos h] at h2;rcases Nat.lt_trichotomy j n with h3 | h3 | h3
 ·exact FK h1 h3
 ·rw [h3]; exact h
 ·exact Dq h3 h2
theorem Ao {n j:Nat} (h:rs[n]? = some true) (hj:j<C2 rs n) (hp:rs[j]? ≠ some true):j<uy rs n:=by
 rw [xw h];rcases kP j (ZZ rs n) with h3 | h3
 ·exact h3
 ·exact absurd (Dc h h3 hj) hp
theorem BO {n j:Nat} (h:rs[n]? = some true) (hj:j<C2 rs n) (hp:rs[j]? = some true):uy rs j≤uy rs n:=by
 rw [xw h,xw hp];rcases kP j (ZZ rs n) with h3 | h3
 ·have:=BD rs j; omega
 ·exact Ib h3 fun i h1 h2=>Dc h h1 (by omega)
theorem BH {n j:Nat} (h:rs[n]? ≠ some true) (hj:j<C2 rs n):uy rs j<uy rs n:=by
 unfold C2 at hj;rw [if_neg h] at hj;rw [vB h];have:=IH (rs:=rs) j;omega
end
def wT (p:Nat→Bool):Nat→Nat
 | 0=>0
 | k+1=>if p k then 2 ^ k+wT p k else wT p k
theorem zp (p:Nat→Bool):∀ k,wT p k<2 ^ k
 | 0=>by simp [wT]
 | k+1=>by
  have:=zp p k;have h2:2 ^ (k+1)=2 ^ k+2 ^ k:=by rw [Nat.pow_succ]; omega
  unfold wT;split <;> omega
theorem zq (p:Nat→Bool):∀ k b,(wT p k).testBit b=(decide (b<k)&&p b)
 | 0,b=>by simp [wT]
 | k+1,b=>by
  have ih:=zq p k b;have hlt:=zp p k;unfold wT;rcases Nat.lt_trichotomy b k with h | h | h
  ·rw [decide_eq_true (by omega),vf];rw [decide_eq_true h,vf] at ih;split
   ·rw [Nat.testBit_two_pow_add_gt h]; exact ih
   ·exact ih
  ·subst h;rw [decide_eq_true (by omega),vf];split
   ·rename_i hp;rw [Nat.testBit_two_pow_add_eq,CX hlt,hp]; rfl
   ·rename_i hp;rw [CX hlt];simpa using hp
  ·rw [decide_eq_false (by omega),Bool.false_and];have h2:2 ^ (k+1)=2 ^ k+2 ^ k:=by rw [Nat.pow_succ]; omega
   have h3:2 ^ (k+1)≤2 ^ b:=CW (by omega) (by omega);split <;> exact CX (by omega)
section
variable (l:List aW) (inp:ah→ByteArray)
noncomputable def tK (V:Nat→ByteArray) (x:dA) (ls:List ByteArray):ByteArray:=if x.Cell=true then inp (tf l x ls) else V (tg x ls).toNat
noncomputable def qW (V:Nat→ByteArray) (r:aW):Nat→List ByteArray
 | 0=>[]
 | k+1=>match r.Asks[k]? with
  | none=>qW V r k
  | some x=>qW V r k++[tK l inp V x (qW V r k)]
inductive RB (V:Nat→ByteArray):Nat→Nat→Prop
 | own {n b:Nat} {r:aW}:l[n]? = some r→r.C.toNat.testBit b=true→RB V n b
 | ask {n b:Nat} {r:aW} {x:dA}:l[n]? = some r→x∈r.Asks→(x.Cell=true∨(bG l)[x.N.toNat]? ≠ some true)→(gS (tK l inp V x [])).toNat.testBit b=true→RB V n b
 | ring {n b:Nat} {r:aW} {x:dA}:l[n]? = some r→x∈r.Asks→x.Cell=false→(bG l)[x.N.toNat]? = some true→RB V x.N.toNat b→RB V n b
open Classical in
noncomputable def G9 (V:Nat→ByteArray) (n:Nat):ByteArray:=match l[n]? with
 | none=>⟨#[]⟩
 | some r=>if r.Ring=true then cZ (wT (fun b=>decide (RB l inp V n b)) 16:Nat) else cZ (uH r (qW l inp V r r.Asks.length))
noncomputable def Wd:Nat→Nat→ByteArray
 | 0=>fun _=>⟨#[]⟩
 | k+1=>fun n=>if uy (bG l) n<k then Wd k n else G9 l inp (Wd k) n
noncomputable def Vd (n:Nat):ByteArray:=Wd l inp (uy (bG l) n+1) n
theorem KN:∀ {k n:Nat},uy (bG l) n<k→Wd l inp k n=Vd l inp n
 | 0,n,h=>absurd h (by omega)
 | k+1,n,h=>by
  rcases kP (uy (bG l) n) k with h1 | h1
  ·show (if uy (bG l) n<k then Wd l inp k n else _)=_;rw [if_pos h1];exact KN h1
  ·obtain rfl:k=uy (bG l) n:=by omega
   rfl
variable {l inp}
theorem FP (hR:bX l) {n:Nat} {r:aW} (h:l[n]? = some r) (hr:r.Ring=true) {k:Nat} {x:dA} (hx:r.Asks[k]? = some x) (ls:List ByteArray):tg x ls=x.N:=by
 have:=(hR.each n r h).each k x hx;unfold tg;rw [if_neg];rintro⟨hp,_⟩;have:=(this.pick hp).1;rw [hr] at this; cases this
theorem nJ {n:Nat} {r:aW} (h:l[n]? = some r):(bG l)[n]? = some r.Ring:=by
 have:=bc h;rw [qx this];rw [bS this] at h;rw [fq h]
theorem zi {V V':Nat→ByteArray} (hR:bX l) {n:Nat} {r:aW} (h:l[n]? = some r) (hr:r.Ring=false) (hV:∀ j,uy (bG l) j<uy (bG l) n→V j=V' j):∀ k,qW l inp V r k=qW l inp V' r k
 | 0=>rfl
 | k+1=>by
  have ih:=zi hR h hr hV k;unfold qW;cases hx:r.Asks[k]? with
  | none=>exact ih
  | some x =>
   dsimp only;rw [ih];congr 2;unfold tK;obtain⟨_,⟨hc,_⟩|⟨hc,j,hj,e1,_⟩⟩:=p8 hR h hx (qW l inp V' r k)
   ·rw [if_pos hc,if_pos hc]
   ·rw [if_neg (by rw [hc]; simp),if_neg (by rw [hc]; simp),e1];exact hV _ (BH (by rw [nJ h,hr]; simp) hj)
theorem C6 {V V':Nat→ByteArray} (hR:bX l) {n0:Nat} (hV:∀ j,uy (bG l) j<uy (bG l) n0→V j=V' j) {n b:Nat} (h:RB l inp V n b):(bG l)[n]? = some true→uy (bG l) n≤uy (bG l) n0→RB l inp V' n b:=by
 induction h with
 | own h1 h2=>exact fun _ _=>.own h1 h2
 | @ask n b r x h1 h2 h3 h4 =>
  intro hr hn;obtain⟨k,hk⟩:=kg.1 h2;have hrr:r.Ring=true:=by rw [nJ h1] at hr; exact fq hr
  have e:=FP hR h1 hrr hk [];refine .ask h1 h2 h3 ?_;rw [← h4];congr 3;unfold tK;obtain⟨_,⟨hc,_⟩|⟨hc,j,hj,e1,_⟩⟩:=p8 hR h1 hk []
  ·rw [if_pos hc,if_pos hc]
  ·rw [if_neg (by rw [hc]; simp),if_neg (by rw [hc]; simp),e1];have e2:x.N.toNat=j:=by omega
   rw [hc,e2] at h3;have hp:(bG l)[j]? ≠ some true:=by rcases h3 with h3 | h3; cases h3; exact h3
   have:=Ao hr hj hp;exact (hV _ (by rw [show ((j:Nat):Int).toNat=j by omega,vB hp]; omega)).symm
 | @ring n b r x h1 h2 h3 h4 h5 ih =>
  intro hr hn;obtain⟨k,hk⟩:=kg.1 h2;have hrr:r.Ring=true:=by rw [nJ h1] at hr; exact fq hr
  have e:=FP hR h1 hrr hk [];refine .ring h1 h2 h3 h4 (ih h4 ?_);obtain⟨_,⟨hc,_⟩|⟨hc,j,hj,e1,_⟩⟩:=p8 hR h1 hk []
  ·rw [h3] at hc; cases hc
  ·have e2:x.N.toNat=j:=by omega
   rw [e2] at h4 ⊢;have:=BO hr hj h4;omega
theorem Fk (hR:bX l) {n:Nat} (hn:n<l.length):Vd l inp n=G9 l inp (Vd l inp) n:=by
 have hg:=bS hn;have e:Vd l inp n=G9 l inp (Wd l inp (uy (bG l) n)) n:=by
  show (if uy (bG l) n<uy (bG l) n then _ else _)=_;rw [if_neg (by omega)]
 rw [e];have hV:∀ j,uy (bG l) j<uy (bG l) n→Wd l inp (uy (bG l) n) j=Vd l inp j:=fun j hj=>KN l inp hj;unfold G9;rw [hg];dsimp only;cases hr:l[n].Ring with
 | false=>rw [if_neg (by simp),if_neg (by simp),zi hR hg hr hV]
 | true =>
  rw [if_pos rfl,if_pos rfl];have hr2:(bG l)[n]? = some true:=by rw [nJ hg,hr]
  have:∀ b,RB l inp (Wd l inp (uy (bG l) n)) n b↔RB l inp (Vd l inp) n b:=fun b =>
   ⟨fun h=>C6 hR hV h hr2 (cX _),fun h=>C6 hR (fun j hj=>(hV j hj).symm) h hr2 (cX _)⟩
  congr 3;funext b;rw [decide_eq_decide];exact this b
end
structure Fh (l:List aW) (inp:ah→ByteArray) (V:Nat→ByteArray):Prop where
 plain:∀ n r,l[n]? = some r→r.Ring=false→V n=cZ (uH r (qW l inp V r r.Asks.length))
 ring:∀ n r,l[n]? = some r→r.Ring=true→∃ u:Nat,V n=cZ u∧u<65536∧∀ b,u.testBit b=true↔RB l inp V n b
theorem Ax {u b:Nat} (h:u<65536) (ht:u.testBit b=true):b<16:=by
 rcases kP b 16 with h1 | h1
 ·exact h1
 ·have:2 ^ 16≤2 ^ b:=CW (by omega) h1;rw [CX (by have:2 ^ 16=65536:=rfl; omega)] at ht;cases ht
theorem Nn {l:List aW} {inp:ah→ByteArray} {V:Nat→ByteArray} (hR:bX l) {n b:Nat} (h:RB l inp V n b):b<16:=by
 induction h with
 | own h1 h2 =>
  rename_i n b r;have hr:=hR.each _ _ h1;refine Ax ?_ h2;cases hg:r.Ring with
  | true=>have:=hr.ring hg; omega
  | false=>have:=hr.plain hg; omega
 | ask h1 h2 h3 h4 =>
  refine Ax ?_ h4;rename_i x;have:=ji (tK l inp V x []);omega
 | ring _ _ _ _ _ ih=>exact ih
theorem HK {l:List aW} (inp:ah→ByteArray) (hR:bX l):Fh l inp (Vd l inp):=by
 refine⟨fun n r h hr=>?_,fun n r h hr=>?_⟩
 ·rw [Fk hR (bc h)];unfold G9;rw [h];dsimp only;rw [if_neg (by rw [hr]; simp)]
 ·classical
  rw [Fk hR (bc h)];unfold G9;rw [h];dsimp only;rw [if_pos hr];refine⟨_,rfl,zp _ 16,fun b=>?_⟩;rw [zq,so,decide_eq_true_eq,decide_eq_true_eq];exact⟨fun h=>h.2,fun h=>⟨Nn hR h,h⟩⟩
end
section
open Go.RowKit
open Go.Lib hiding intOf
theorem H4 {a b:ah} (h:a≠b):aL a b=false:=by rw [← Bool.not_eq_true]; exact fun e=>h ((jk a b).1 e)
theorem Dy (a:ah):aL a a=true:=(jk a a).2 rfl
theorem gB {ν:Type} (k:ah) (v:ν) (m:List (ah×ν)):cK aL k (eH aL k v m)=some v:=by rw [uN jk,Dy]; rfl
theorem lA {ν:Type} {k k':ah} (h:k≠k') (v:ν) (m:List (ah×ν)):cK aL k (eH aL k' v m)=cK aL k m:=by rw [uN jk,H4 h]; rfl
def vH (b:aj) (k:ah):aN:=match b.Inputs.find? (fun x=>eo x.Key k) with | some x=>x | none=>⟨k,⟨#[]⟩,0⟩
theorem BM {b:aj} (hb:Rm b.Inputs.length) (k:ah):py b k=some (vH b k):=by
 unfold Rm at hb;have key:loop (fun s:Int=>gF b k s) 0=some (match b.Inputs.find? (fun x=>eo x.Key k) with | some x=>Fl.out x | none=>Fl.go ()):=by
  rcases nD (xs:=b.Inputs) (B:=fun s:Int=>gF b k s) (fun x=>eo x.Key k) (fun i=>(i:Int)) (s0:=0) rfl (y:=fun _ x=>Fl.out x) (n:=Fl.go ()) (fun i x hx hp=>by
   unfold gF;rw [cU hx,cond_true,aZ,hx,ax,cJ (by have:=bc hx; omega)];show cond (eo x.Key k) _ _=_;rw [hp]; rfl) (fun i x hx hp=>by
   unfold gF;rw [cU hx,cond_true,aZ,hx,ax];show cond (eo x.Key k) _ _=_;rw [hp]; rfl) (by unfold gF; rw [bA]; rfl) with⟨i,x,h1,h2,h3,h4⟩|⟨h1,h2⟩
  ·rw [h4,FC (p:=fun x=>eo x.Key k) h1 h2 h3]
  ·rw [h2,AK.2 fun x hx=>by rw [h1 x hx]; simp]
 unfold py;rw [key];unfold vH;cases b.Inputs.find? (fun x=>eo x.Key k) <;> rfl
theorem FD {b:aj} (hb:Rm b.Inputs.length) (k:ah):nU b k=some (vH b k).Value:=by
 unfold nU;rw [BM hb]; rfl
theorem Cn:cZ ((0:Nat):Int)=⟨#[48]⟩:=by
 unfold cZ;rw [ol];unfold decDigits;simp
def kD (m m':List (ah×ByteArray)):Prop:=∀ k v,cK aL k m=some v→cK aL k m'=some v
theorem kD.refl (m:List (ah×ByteArray)):kD m m:=fun _ _ h=>h
theorem kD.trans {a b c:List (ah×ByteArray)} (h:kD a b) (k:kD b c):kD a c:=fun x v e=>k x v (h x v e)
theorem kD.has {a b:List (ah×ByteArray)} (h:kD a b) {k:ah} (e:cK aL k a≠none):cK aL k b≠none:=by
 cases hk:cK aL k a with
 | none=>exact absurd hk e
 | some v=>rw [h k v hk]; simp
structure tc (l:List aW) (V:Nat→ByteArray) (b:aj) (s:ap):Prop where
 rules:s.Rules=l
 base:s.Base=b
 memo:∀ n,n<l.length→∀ v,cK aL (rk l n) s.Memo=some v→v=V n
 cell:∀ c,cK aL (bz c) s.Memo=none
section
variable {l:List aW} {V:Nat→ByteArray} {b:aj} {inp:ah→ByteArray}
theorem tc.put {s:ap} (h:tc l V b s) {n:Nat} (hn:n<l.length) (hl:l.length≤8):tc l V b ⟨s.Rules,s.Base,eH aL (rk l n) (V n) s.Memo,s.Seen⟩∧kD s.Memo (eH aL (rk l n) (V n) s.Memo):=by
 refine⟨⟨h.rules,h.base,fun m hm v e=>?_,fun c=>?_⟩,fun k v e=>?_⟩
 ·by_cases hk:m=n
  ·subst hk;rw [gB] at e;exact (fq e).symm
  ·rw [lA (fun e=>hk (Ap (by omega) (by omega) e))] at e;exact h.memo m hm v e
 ·rw [lA Fq];exact h.cell c
 ·by_cases hk:k=rk l n
  ·subst hk;rw [gB,h.memo n hn v e]
  ·rw [lA hk,e]
def Hi (l:List aW) (x:dA):Prop:=x.Cell=true∨(bG l)[x.N.toNat]? ≠ some true
def vK (l:List aW) (V:Nat→ByteArray) (inp:ah→ByteArray) (memo0 memo:List (ah×ByteArray)) (idx:List Nat) (a:Nat→Nat) (x:dA) (v:ByteArray):Prop :=
 (Hi l x∧v=tK l inp V x [])∨(¬ Hi l x∧((cK aL (rk l x.N.toNat) memo≠none∧v=V x.N.toNat)∨(x.N.toNat∈idx∧v=cZ (a x.N.toNat:Nat)∧cK aL (rk l x.N.toNat) memo0=none)))
theorem vK.mono {memo0 memo memo':List (ah×ByteArray)} {idx idx':List Nat} {a:Nat→Nat} {x:dA} {v:ByteArray} (h:vK l V inp memo0 memo idx a x v) (hg:kD memo memo') (hi:∀ i∈idx,i∈idx'):vK l V inp memo0 memo' idx' a x v:=by
 rcases h with h | ⟨h0,⟨h1,h2⟩|⟨h1,h2,h3⟩⟩
 ·exact .inl h
 ·exact .inr ⟨h0,.inl ⟨hg.has h1,h2⟩⟩
 ·exact .inr ⟨h0,.inr ⟨hi _ h1,h2,h3⟩⟩
def Vw (l:List aW) (V:Nat→ByteArray) (inp:ah→ByteArray) (memo:List (ah×ByteArray)) (a:Nat→Nat) (x:dA) (q:Nat):Prop :=
 (Hi l x∧(gS (tK l inp V x [])).toNat.testBit q=true)∨(¬ Hi l x∧((cK aL (rk l x.N.toNat) memo≠none∧RB l inp V x.N.toNat q)∨(a x.N.toNat).testBit q=true))
def Fb (l:List aW) (V:Nat→ByteArray) (inp:ah→ByteArray) (memo:List (ah×ByteArray)) (a:Nat→Nat) (i q:Nat):Prop:=∃ r,l[i]? = some r∧(r.C.toNat.testBit q=true∨∃ x∈r.Asks,Vw l V inp memo a x q)
theorem Fb.mono {memo memo':List (ah×ByteArray)} {a a':Nat→Nat} {i q:Nat} (h:Fb l V inp memo a i q) (hg:kD memo memo') (ha:∀ j q,(a j).testBit q=true→(a' j).testBit q=true):Fb l V inp memo' a' i q:=by
 obtain⟨r,h1,h2 | ⟨x,h2,h3⟩⟩:=h
 ·exact⟨r,h1,.inl h2⟩
 ·refine⟨r,h1,.inr ⟨x,h2,?_⟩⟩;rcases h3 with h3 | ⟨h0,⟨h3,h4⟩ | h3⟩
  ·exact .inl h3
  ·exact .inr ⟨h0,.inl ⟨hg.has h3,h4⟩⟩
  ·exact .inr ⟨h0,.inr (ha _ _ h3)⟩
structure yR (l:List aW) (V:Nat→ByteArray) (inp:ah→ByteArray) (n0:Nat) (memo:List (ah×ByteArray)) (m:List (ah×ByteArray)) (list:List ah) (idx:List Nat) (a:Nat→Nat):Prop where
 eq:list=idx.map (rk l)
 nd:idx.Nodup
 ring:∀ i∈idx,i<l.length∧(bG l)[i]? = some true∧uy (bG l) i≤uy (bG l) n0
 head:n0∈idx
 get:∀ i,i<l.length→cK aL (rk l i) m=if i∈idx then some (cZ (a i:Nat)) else none
 zero:∀ i,i ∉ idx→a i=0
 lt:∀ i,a i<65536
 le:∀ i q,(a i).testBit q=true→RB l inp V i q
 up:∀ i∈idx,∀ q,(a i).testBit q=true→Fb l V inp memo a i q
theorem Ii {idx:List Nat} (hn:idx.Nodup) {N:Nat} (h:∀ i∈idx,i<N):idx.length≤N:=by
 have:=pp hn (m:=List.range N) fun x hx=>vg.2 (h x hx);rwa [sg] at this
theorem yR.len {n0:Nat} {memo m:List (ah×ByteArray)} {list:List ah} {idx:List Nat} {a:Nat→Nat} (h:yR l V inp n0 memo m list idx a):list.length=idx.length∧idx.length≤l.length :=
 ⟨by rw [h.eq,qR],Ii h.nd fun i hi=>(h.ring i hi).1⟩
theorem yR.grow {n0:Nat} {memo memo' m:List (ah×ByteArray)} {list:List ah} {idx:List Nat} {a:Nat→Nat} (h:yR l V inp n0 memo m list idx a) (hg:kD memo memo'):yR l V inp n0 memo' m list idx a :=
 ⟨h.eq,h.nd,h.ring,h.head,h.get,h.zero,h.lt,h.le,fun i hi q hq=>(h.up i hi q hq).mono hg fun _ _ e=>e⟩
theorem yR.add {n0:Nat} {memo m:List (ah×ByteArray)} {list:List ah} {idx:List Nat} {a:Nat→Nat} (h:yR l V inp n0 memo m list idx a) (hl:l.length≤8) {j:Nat} (hj:j<l.length) (hr:(bG l)[j]? = some true) (hk:uy (bG l) j≤uy (bG l) n0) (hn:j ∉ idx) :
  yR l V inp n0 memo (eH aL (rk l j) ⟨#[48]⟩ m) (list++[rk l j]) (idx++[j]) a:=by
 refine⟨by rw [h.eq,ur]; rfl,?_,?_,qC _ h.head,?_,fun i hi=>h.zero i fun e=>hi (qC _ e),h.lt,h.le,?_⟩
 ·rw [List.nodup_append];exact⟨h.nd,by simp,fun x hx y hy=>by rw [eG.1 hy]; exact fun e=>hn (e▸hx)⟩
 ·intro i hi;rcases dz.1 hi with hi | hi
  ·exact h.ring i hi
  ·rw [eG.1 hi]; exact⟨hj,hr,hk⟩
 ·intro i hi;by_cases e:i=j
  ·subst e;rw [gB,if_pos (wh _ (eG.2 rfl)),h.zero i hn,Cn]
  ·rw [lA (fun e2=>e (Ap (by omega) (by omega) e2)),h.get i hi];have:(i∈idx++[j])↔i∈idx:=by rw [dz,eG]; exact⟨fun h=>h.resolve_right e,.inl⟩
   simp only [this]
 ·intro i hi q hq;rcases dz.1 hi with hi | hi
  ·exact h.up i hi q hq
  ·rw [eG.1 hi,h.zero j hn] at hq;simp at hq
end
end
section
open Go.RowKit
open Go.Lib hiding intOf
theorem Dm:∀ (xs:List Nat) (c q:Nat),(xs.foldl (· ||| ·) c).testBit q=true↔c.testBit q=true∨∃ x∈xs,x.testBit q=true
 | [],c,q=>by simp
 | x::xs,c,q=>by
  rw [vi,Dm xs (c ||| x) q,Nat.testBit_or,xI];simp only [cz];constructor
  ·rintro ((h | h) | ⟨y,h1,h2⟩)
   ·exact .inl h
   ·exact .inr ⟨x,.inl rfl,h⟩
   ·exact .inr ⟨y,.inr h1,h2⟩
  ·rintro (h | ⟨y,rfl | h1,h2⟩)
   ·exact .inl (.inl h)
   ·exact .inl (.inr h2)
   ·exact .inr ⟨y,h1,h2⟩
section
variable {l:List aW} {V:Nat→ByteArray} {b:aj} {inp:ah→ByteArray}
theorem HP (hR:bX l) {n:Nat} {r:aW} (h:l[n]? = some r) (hr:r.Ring=true) (ls:List ByteArray) :
  ∃ m:Nat,uH r ls=m∧m<65536∧∀ q,m.testBit q=true↔r.C.toNat.testBit q=true∨∃ v∈ls,(gS v).toNat.testBit q=true:=by
 obtain⟨h1,h2,h3⟩:=(hR.each n r h).ring hr;obtain⟨c,hc⟩:∃ c:Nat,r.C=c:=⟨r.C.toNat,by omega⟩;have e:ls.map gS=(ls.map fun s=>(gS s).toNat).map fun x:Nat=>(x:Int):=by
  rw [AT];refine List.map_congr_left fun s _=>?_;have:=ji s;simp only [Function.comp];omega
 have:=Ch (ls.map fun s=>(gS s).toNat) c (fun x hx=>by
  obtain⟨s,_,rfl⟩:=gq.1 hx;have:=ji s;omega) (by omega)
 refine⟨(ls.map fun s=>(gS s).toNat).foldl (· ||| ·) c,?_,this.2,fun q=>?_⟩
 ·unfold uH;dsimp only;rw [if_neg (by omega),if_neg (by omega),if_neg (by omega),if_neg (by omega),e,hc];exact this.1
 ·rw [Dm,hc];rw [show ((c:Nat):Int).toNat=c from tH c];refine or_congr Iff.rfl ⟨fun ⟨x,hx,hq⟩=>?_,fun ⟨v,hv,hq⟩=>⟨_,gq.2 ⟨v,hv,rfl⟩,hq⟩⟩;obtain⟨v,hv,rfl⟩:=gq.1 hx;exact⟨v,hv,hq⟩
def Nm (l:List aW) (V:Nat→ByteArray) (b:aj) (inp:ah→ByteArray) (n0:Nat) (a:Nat→Nat) (i:Nat) (r:aW) (memo0:List (ah×ByteArray)) (idx0:List Nat) (ch0:Bool) (k:Nat) :
  (List (ah×ByteArray))×(List ah)×Bool×(List ByteArray)×(List aW)×Int×(List aN)×(List aw)×(List (ah×ByteArray))×(List (ah×(List ah)))×Bool×ByteArray×Int×ByteArray→Prop
 | (m,list,ch,ws,rules,rev,inps,recs,memo,seen,d,v,ak,at_) =>
  ∃ (idx:List Nat),yR l V inp n0 memo m list idx a∧tc l V b (ap.mk rules (aj.mk rev inps recs) memo seen)∧kD memo0 memo∧idx0 <+: idx∧((ch=ch0∧idx=idx0)∨(ch=true∧idx0.length<idx.length)) ∧
   ws.length=k∧(∀ q x,q<k→r.Asks[q]? = some x→∃ v,ws[q]? = some v∧vK l V inp memo0 memo idx a x v)∧ey l (rk l i) ws=some ⟨d,v,⟨ak,at_⟩⟩
def Hj (l:List aW) (V:Nat→ByteArray) (b:aj) (inp:ah→ByteArray) (n0:Nat) (a:Nat→Nat) (i:Nat) (r:aW) (memo0:List (ah×ByteArray)) (idx0:List Nat) (ch0:Bool) :
  (List (ah×ByteArray))×(List ah)×Bool×(List aW)×Int×(List aN)×(List aw)×(List (ah×ByteArray))×(List (ah×(List ah)))×Bool×ByteArray×Int×ByteArray→Prop
 | (m,list,ch,rules,rev,inps,recs,memo,seen,d,v,ak,at_) =>
  ∃ (idx:List Nat) (ws:List ByteArray),yR l V inp n0 memo m list idx a∧tc l V b (ap.mk rules (aj.mk rev inps recs) memo seen)∧kD memo0 memo∧idx0 <+: idx∧((ch=ch0∧idx=idx0)∨(ch=true∧idx0.length<idx.length)) ∧
   ws.length=r.Asks.length∧(∀ (q:Nat) (x:dA),r.Asks[q]? = some x→∃ (w:ByteArray),ws[q]? = some w∧vK l V inp memo0 memo idx a x w)∧v=cZ (uH r ws)
section
variable {n0:Nat} {a:Nat→Nat} {i p:Nat} {r:aW} {memo0:List (ah×ByteArray)} {idx0:List Nat} {ch0:Bool} (hR:bX l) (hi:l[i]? = some r) (hr:r.Ring=true) (hp:idx0[p]? = some i)
include hR hi
theorem vF {ws:List ByteArray} (h:ws.length≤r.Asks.length):∃ t,ey l (rk l i) ws=some t∧((ws.length=r.Asks.length∧t=⟨true,cZ (uH r ws),⟨0,⟨#[]⟩⟩⟩)∨∃ x,r.Asks[ws.length]? = some x∧t=⟨false,⟨#[]⟩,tf l x ws⟩):=by
 rcases kP ws.length r.Asks.length with h1 | h1
 ·exact⟨_,Ay hR hi (bS h1),.inr ⟨_,bS h1,rfl⟩⟩
 ·exact⟨_,ym hR hi h1,.inl ⟨by omega,by rw [Gc (by omega)]⟩⟩
include hp
theorem On {k:Nat} {m:List (ah×ByteArray)} {list:List ah} {ch:Bool} {ws:List ByteArray} {rules:List aW} {rev:Int} {inps:List aN} {recs:List aw} {memo:List (ah×ByteArray)} {seen:List (ah×(List ah))} {idx:List Nat} {x:dA} {v:ByteArray}
  (h1:yR l V inp n0 memo m list idx a) (h2:tc l V b (ap.mk rules (aj.mk rev inps recs) memo seen)) (h3:kD memo0 memo) (h4:idx0 <+: idx) (h5:(ch=ch0∧idx=idx0)∨(ch=true∧idx0.length<idx.length))
  (h6:ws.length=k) (h7:∀ q x,q<k→r.Asks[q]? = some x→∃ v,ws[q]? = some v∧vK l V inp memo0 memo idx a x v) (hx:r.Asks[k]? = some x) (hv:vK l V inp memo0 memo idx a x v) :
  Ok (cV p ws m list ch v rules rev inps recs memo seen) fun y=>match y with
   | .go s'=>k<r.Asks.length∧Nm l V b inp n0 a i r memo0 idx0 ch0 (k+1) s'
   | .out y=>Hj l V b inp n0 a i r memo0 idx0 ch0 y:=by
 have hk:=bc hx;have h3l:=(hR.each i r hi).asks;obtain⟨t,ht,_⟩:=vF hR hi (ws:=ws++[v]) (by rw [cS,h6]; simp; omega);have hlist:bu list (p:Int)=some (rk l i):=by
  obtain⟨u,rfl⟩:=h4;rw [aZ,h1.eq,uq,m6 (bc hp),hp]; rfl
 have hru:rules=l:=h2.rules;unfold cV;refine dM (dX (by simp; omega)) (aM hlist (aM (by rw [hru]; exact ht) (ar ⟨hk,idx,h1,h2,h3,h4,h5,by rw [cS,h6]; rfl,fun q y hq hy=>?_,ht⟩)));rcases kP q k with h | h
 ·obtain⟨w,hw1,hw2⟩:=h7 q y h hy;exact⟨w,by rw [m6 (bc hw1)]; exact hw1,hw2⟩
 ·obtain rfl:q=k:=by omega
  rw [hx] at hy;obtain rfl:=fq hy;exact⟨v,by rw [o5 (by omega),h6]; simp,hv⟩
end
end
end
section
open Go.RowKit
open Go.Lib hiding intOf
structure Lu (l:List aW) (V:Nat→ByteArray) (b:aj) (inp:ah→ByteArray) (ρ:Nat) (vrec:ap→ah→Option (ByteArray×ap)):Prop where
 rule:∀ s n,tc l V b s→n<l.length→uy (bG l) n<ρ→Ok (vrec s (rk l n)) fun y=>y.1=V n∧tc l V b y.2∧kD s.Memo y.2.Memo
 cell:∀ s c,tc l V b s→c<10→Ok (vrec s (bz c)) fun y=>y.1=inp (bz c)∧y.2=s
section
variable {l:List aW} {V:Nat→ByteArray} {b:aj} {inp:ah→ByteArray} {vrec:ap→ah→Option (ByteArray×ap)}
variable {n0:Nat} {a:Nat→Nat} {i p:Nat} {r:aW} {memo0:List (ah×ByteArray)} {idx0:List Nat} {ch0:Bool} (hR:bX l) (hv:Lu l V b inp (uy (bG l) n0) vrec) (hi:l[i]? = some r) (hr:r.Ring=true) (hp:idx0[p]? = some i)
include hR hv hi hr hp
theorem Oo {k:Nat} (hk:k≤r.Asks.length):∀ s,Nm l V b inp n0 a i r memo0 idx0 ch0 k s→Ok (d5 vrec p s.1 s.2.1 s.2.2.1 s.2.2.2.1 s.2.2.2.2.1 s.2.2.2.2.2.1 s.2.2.2.2.2.2.1 s.2.2.2.2.2.2.2.1 s.2.2.2.2.2.2.2.2.1 s.2.2.2.2.2.2.2.2.2.1 s.2.2.2.2.2.2.2.2.2.2.1 s.2.2.2.2.2.2.2.2.2.2.2.1 s.2.2.2.2.2.2.2.2.2.2.2.2.1 s.2.2.2.2.2.2.2.2.2.2.2.2.2) fun y=>match y with
   | .go s'=>k<r.Asks.length∧Nm l V b inp n0 a i r memo0 idx0 ch0 (k+1) s'
   | .out y=>Hj l V b inp n0 a i r memo0 idx0 ch0 y:=by
 rintro⟨m,list,ch,ws,rules,rev,inps,recs,memo,seen,d,v,ak,at_⟩ ⟨idx,h1,h2,h3,h4,h5,h6,h7,h8⟩;dsimp only;have hl8:=hR.high;obtain⟨t,ht,hcase⟩:=vF hR hi (ws:=ws) (by omega);rw [h8] at ht;obtain rfl:=fq ht;have hiI:i∈idx:=h4.subset (a6 hp);unfold d5;rcases hcase with⟨e1,e2⟩|⟨x,hx,e2⟩
 ·injection e2 with ed ev ea;subst ed;simp only [dh,cond_false];exact ar ⟨idx,ws,h1,h2,h3,h4,h5,e1,fun q x hx=>h7 q x (by have:=bc hx; omega) hx,ev⟩
 ·injection e2 with ed ev ea;subst ed;rw [h6] at hx;have n1:=FP hR hi hr hx ws;have n2:=FP hR hi hr hx [];obtain⟨g0,hg⟩:=p8 hR hi hx ws;simp only [my,cond_true,ax];rw [ea];have done:∀ {m list ch rules rev inps recs memo seen} {idx:List Nat} {w:ByteArray},yR l V inp n0 memo m list idx a→tc l V b (ap.mk rules (aj.mk rev inps recs) memo seen)→kD memo0 memo→idx0 <+: idx→((ch=ch0∧idx=idx0)∨(ch=true∧idx0.length<idx.length)) →
    (∀ q x,q<k→r.Asks[q]? = some x→∃ v,ws[q]? = some v∧vK l V inp memo0 memo idx a x v)→vK l V inp memo0 memo idx a x w→Ok (cV p ws m list ch w rules rev inps recs memo seen) fun y=>match y with
   | .go s'=>k<r.Asks.length∧Nm l V b inp n0 a i r memo0 idx0 ch0 (k+1) s'
   | .out y=>Hj l V b inp n0 a i r memo0 idx0 ch0 y:=fun q1 q2 q3 q4 q5 q6 q7=>On hR hi hp q1 q2 q3 q4 q5 h6 q6 hx q7
  rcases hg with⟨hc,c,hc4,e3,e4⟩|⟨hc,j,hj,e3,e4⟩
  ·have hB:Hi l x:=.inl hc;have hA:tK l inp V x []=inp (bz c):=by
    unfold tK tf;rw [if_pos hc,if_pos hc,n2,← n1,e3]; rfl
   rw [e4,h2.cell c];simp only [Option.isSome_none,cond_false];refine aM (gR _) ?_;rw [Gt];simp only [my,cond_true];refine aQ (hv.cell _ c h2 hc4) fun y hy=>?_;obtain⟨y1,y2⟩:=y;obtain⟨f1,f2⟩:=hy;simp only at f1 f2;subst f1 f2;exact done h1 h2 h3 h4 h5 h7 (.inl ⟨hB,hA.symm⟩)
  ·have hll:=z8 (bc hi);have hjl:j<l.length:=by omega
   have hxj:x.N.toNat=j:=by omega
   have hri:(bG l)[i]? = some true:=by rw [nJ hi,hr]
   have hio:=h1.ring i hiI;rw [e4];cases hm:cK aL (rk l j) memo with
   | some w =>
    have hw:=h2.memo j hjl w hm;simp only [Option.isSome_some,cond_true,B3];refine done h1 h2 h3 h4 h5 h7 ?_;by_cases hB:Hi l x
    ·refine .inl ⟨hB,?_⟩;unfold tK;rw [if_neg (by rw [hc]; simp),n2,hxj,hw]
    ·exact .inr ⟨hB,.inl ⟨by rw [hxj,hm]; simp,by rw [hxj,hw]⟩⟩
   | none =>
    simp only [Option.isSome_none,cond_false];refine aM (gR _) ?_;rw [FQ];by_cases hrj:(bG l)[j]? = some true
    ·have hB:¬ Hi l x:=by
      rintro (h | h)
      ·rw [hc] at h; cases h
      ·rw [hxj] at h; exact h hrj
     have hm0:cK aL (rk l x.N.toNat) memo0=none:=by
      rw [hxj];cases h0:cK aL (rk l j) memo0 with
      | none=>rfl
      | some w=>rw [h3 _ _ h0] at hm; cases hm
     rw [decide_eq_true hrj];simp only [dh,cond_false];have hg:=h1.get j hjl;by_cases hjI:j∈idx
     ·rw [if_pos hjI] at hg;rw [hg];simp only [Option.isSome_some,dh,cond_false];unfold dZ;rw [ea,e4,hg];exact done h1 h2 h3 h4 h5 h7 (.inr ⟨hB,.inr ⟨by rw [hxj]; exact hjI,by rw [hxj]; rfl,hm0⟩⟩)
     ·rw [if_neg hjI] at hg;rw [hg];simp only [Option.isSome_none,my,cond_true];have hL:ke (rk l j)=some ⟨#[48]⟩:=by
       unfold ke;rcases rh (l:=l) (n:=j) with⟨_,h⟩|⟨h,_⟩
       ·exact absurd hrj h
       ·rw [h]; rfl
      have hadd:=h1.add hl8 hjl hrj (by have:=BO hri hj hrj; omega) hjI;have hlen:=h1.len;refine aM hL (dM (dX (by simp; omega)) ?_);unfold dZ;rw [ea,e4,gB];refine done hadd h2 h3 (h4.trans (List.prefix_append _ _)) (.inr ⟨rfl,?_⟩) (fun q y hq hy=>?_) (.inr ⟨hB,.inr ⟨by rw [hxj]; exact wh _ (eG.2 rfl),?_,hm0⟩⟩)
      ·have:=h4.length_le;rw [cS]; simp; omega
      ·obtain⟨w,q1,q2⟩:=h7 q y hq hy;exact⟨w,q1,q2.mono (kD.refl _) fun _ h=>qC _ h⟩
      ·rw [hxj,h1.zero j hjI,Cn]; rfl
    ·have hB:Hi l x:=.inr (by rw [hxj]; exact hrj);have hA:tK l inp V x []=V j:=by
      unfold tK;rw [if_neg (by rw [hc]; simp),n2,hxj]
     rw [decide_eq_false hrj];simp only [my,cond_true];have hlow:=Ao hri hj hrj;refine aQ (hv.rule _ j h2 hjl (by rw [vB hrj]; omega)) fun y hy=>?_;obtain⟨f1,f2,f3⟩:=hy;exact done (h1.grow f3) f2 (h3.trans f3) h4 h5 (fun q y hq hy=>by
      obtain⟨w,q1,q2⟩:=h7 q y hq hy;exact⟨w,q1,q2.mono f3 fun _ h=>h⟩) (.inl ⟨hB,by rw [hA,f1]⟩)
theorem I2 {m:List (ah×ByteArray)} {list:List ah} {rules:List aW} {rev:Int} {inps:List aN} {recs:List aw} {seen:List (ah×(List ah))} (h1:yR l V inp n0 memo0 m list idx0 a) (h2:tc l V b (ap.mk rules (aj.mk rev inps recs) memo0 seen)) {t:pZ} (ht:ey l (rk l i) []=some t) {β:Type} {R:β→Prop} {g:_→Option β} (hg:∀ y,Hj l V b inp n0 a i r memo0 idx0 ch0 y→Ok (g y) R) :
  Ok ((loop (fun s:(List (ah×ByteArray))×(List ah)×Bool×(List ByteArray)×(List aW)×Int×(List aN)×(List aw)×(List (ah×ByteArray))×(List (ah×(List ah)))×Bool×ByteArray×Int×ByteArray=>d5 vrec p s.1 s.2.1 s.2.2.1 s.2.2.2.1 s.2.2.2.2.1 s.2.2.2.2.2.1 s.2.2.2.2.2.2.1 s.2.2.2.2.2.2.2.1 s.2.2.2.2.2.2.2.2.1 s.2.2.2.2.2.2.2.2.2.1 s.2.2.2.2.2.2.2.2.2.2.1 s.2.2.2.2.2.2.2.2.2.2.2.1 s.2.2.2.2.2.2.2.2.2.2.2.2.1 s.2.2.2.2.2.2.2.2.2.2.2.2.2) (m,list,ch0,[],rules,rev,inps,recs,memo0,seen,t.Done,t.Value,t.Ask.Kind,t.Ask.Text)).bind g) R:=by
 refine cc (Nm l V b inp n0 a i r memo0 idx0 ch0) (Hj l V b inp n0 a i r memo0 idx0 ch0) r.Asks.length ?_ (fun k s hk hI=>(Oo hR hv hi hr hp hk s hI).mono fun y hy=>by cases y <;> exact hy) hg;exact⟨idx0,h1,h2,kD.refl _,List.prefix_refl _,.inl ⟨rfl,rfl⟩,rfl,fun q x hq=>absurd hq (by omega),ht⟩
end
end
section
open Go.RowKit
open Go.Lib hiding intOf
def yl (a:Nat→Nat):Nat→Nat
 | 0=>0
 | n+1=>yl a n+a n
theorem FX {a a':Nat→Nat} (h:∀ j,a j≤a' j):∀ n,yl a n≤yl a' n
 | 0=>cX _
 | n+1=>Nat.add_le_add (FX h n) (h n)
theorem FY {a a':Nat→Nat} (h:∀ j,a j≤a' j) {i:Nat} (hi:a i<a' i):∀ n,i<n→yl a n<yl a' n
 | 0,h0=>absurd h0 (by omega)
 | n+1,h0=>by
  have h1:=h n;have h2:=FX h n;show yl a n+a n<yl a' n+a' n;rcases kP i n with h3 | h3
  ·have:=FY h hi n h3; omega
  ·obtain rfl:i=n:=by omega
   omega
theorem Aw {a:Nat→Nat} (h:∀ j,a j<65536):∀ n,yl a n≤n*65536
 | 0=>by simp [yl]
 | n+1=>by
  have:=Aw h n;have:=h n;show yl a n+a n≤_;omega
theorem Jz {a m:Nat} (h:∀ q,a.testBit q=true→m.testBit q=true):a≤m:=by
 have:a &&& m=a:=by
  apply Nat.eq_of_testBit_eq;intro q;rw [Nat.testBit_and];cases ha:a.testBit q with
  | false=>rfl
  | true=>rw [h q ha]; rfl
 rw [← this];exact Nat.and_le_right
section
variable {l:List aW} {V:Nat→ByteArray} {b:aj} {inp:ah→ByteArray} {vrec:ap→ah→Option (ByteArray×ap)}
def ZY (l:List aW) (V:Nat→ByteArray) (inp:ah→ByteArray) (idx:List Nat) (a:Nat→Nat) (i:Nat):Prop :=
 ∃ r,l[i]? = some r∧(∀ q,r.C.toNat.testBit q=true→(a i).testBit q=true)∧∀ x∈r.Asks,(Hi l x→∀ q,(gS (tK l inp V x [])).toNat.testBit q=true→(a i).testBit q=true) ∧
  (¬ Hi l x→(∀ q,RB l inp V x.N.toNat q→(a i).testBit q=true)∨(x.N.toNat∈idx∧∀ q,(a x.N.toNat).testBit q=true→(a i).testBit q=true))
theorem EE {idx:List Nat} {a:Nat→Nat} (hc:∀ i∈idx,ZY l V inp idx a i) {i q:Nat} (h:RB l inp V i q):i∈idx→(a i).testBit q=true:=by
 induction h with
 | own h1 h2 =>
  intro hi;obtain⟨r,g1,g2,g3⟩:=hc _ hi;rw [h1] at g1;obtain rfl:=fq g1;exact g2 _ h2
 | ask h1 h2 h3 h4 =>
  intro hi;obtain⟨r,g1,g2,g3⟩:=hc _ hi;rw [h1] at g1;obtain rfl:=fq g1;exact (g3 _ h2).1 h3 _ h4
 | ring h1 h2 h3 h4 h5 ih =>
  intro hi;obtain⟨r,g1,g2,g3⟩:=hc _ hi;rw [h1] at g1;obtain rfl:=fq g1;rcases (g3 _ h2).2 (by rintro (h | h); rw [h3] at h; cases h; exact h h4) with h | ⟨h,k⟩
  ·exact h _ h5
  ·exact k _ (ih h)
theorem wZ (hR:bX l) (hD:Fh l inp V) {j:Nat} (hj:(bG l)[j]? = some true):∃ u:Nat,V j=cZ u∧u<65536∧(gS (V j)).toNat=u∧∀ q,u.testBit q=true↔RB l inp V j q:=by
 have hl:j<l.length:=by have:=bc hj; unfold bG at this; rwa [qR] at this
 have hg:=bS hl;obtain⟨u,h1,h2,h3⟩:=hD.ring j l[j] hg (by rw [qx hl] at hj; exact fq hj);exact⟨u,h1,h2,by rw [h1,xB h2]; omega,h3⟩
theorem Az {n:Nat} (h:n<65536):(gS (cZ (n:Int))).toNat=n:=by rw [xB h]; omega
theorem EO {x:dA} (h:¬ Hi l x):x.Cell=false∧(bG l)[x.N.toNat]? = some true:=by
 constructor
 ·cases hc:x.Cell with
  | false=>rfl
  | true=>exact absurd (.inl hc) h
 ·exact Classical.byContradiction fun e=>h (.inr e)
theorem yR.set {n0:Nat} {memo m:List (ah×ByteArray)} {list:List ah} {idx:List Nat} {a:Nat→Nat} (h:yR l V inp n0 memo m list idx a) (hl:l.length≤8) {i u:Nat} (hi:i∈idx) (hu:u<65536) (hlow:∀ q,(a i).testBit q=true→u.testBit q=true) (hRB:∀ q,u.testBit q=true→RB l inp V i q) (hF:∀ q,u.testBit q=true→Fb l V inp memo a i q) :
  yR l V inp n0 memo (eH aL (rk l i) (cZ (u:Int)) m) list idx (fun j=>if j=i then u else a j):=by
 have hmono:∀ j q,(a j).testBit q=true→(if j=i then u else a j).testBit q=true:=by
  intro j q hq;by_cases e:j=i
  ·rw [if_pos e]; rw [e] at hq; exact hlow q hq
  ·rw [if_neg e]; exact hq
 refine⟨h.eq,h.nd,h.ring,h.head,fun j hj=>?_,fun j hj=>?_,fun j=>?_,fun j q hq=>?_,fun j hj q hq=>?_⟩
 ·by_cases e:j=i
  ·subst e;rw [gB,if_pos hi,if_pos rfl]
  ·rw [lA (fun e2=>e (Ap (by omega) (by have:=(h.ring i hi).1; omega) e2)),h.get j hj];simp only [if_neg e]
 ·have:j≠i:=fun e=>hj (e▸hi);show (if j=i then u else a j)=0;rw [if_neg this]; exact h.zero j hj
 ·show (if j=i then u else a j)<65536;split
  ·exact hu
  ·exact h.lt j
 ·by_cases e:j=i
  ·rw [if_pos e] at hq; rw [e]; exact hRB q hq
  ·rw [if_neg e] at hq; exact h.le j q hq
 ·by_cases e:j=i
  ·rw [if_pos e] at hq; rw [e]; exact (hF q hq).mono (kD.refl _) hmono
  ·rw [if_neg e] at hq; exact (h.up j hj q hq).mono (kD.refl _) hmono
section
variable {n0:Nat} {a:Nat→Nat} {i:Nat} {r:aW} {memo0 memo m m0:List (ah×ByteArray)} {idx0 idx:List Nat} {list list0:List ah} {ws:List ByteArray} {u:Nat} (hR:bX l) (hD:Fh l inp V) (hi:l[i]? = some r) (hr:r.Ring=true)
 (h0:yR l V inp n0 memo0 m0 list0 idx0 a) (h1:yR l V inp n0 memo m list idx a) (hiI:i∈idx0) (hlen:ws.length=r.Asks.length) (hans:∀ (q:Nat) (x:dA),r.Asks[q]? = some x→∃ (w:ByteArray),ws[q]? = some w∧vK l V inp memo0 memo idx a x w)
 (hu:∀ q,u.testBit q=true↔r.C.toNat.testBit q=true∨∃ v∈ws,(gS v).toNat.testBit q=true)
include hR hD hi h0 h1 hiI hlen hans hu
omit hlen in
theorem Kj (q:Nat) (hq:(a i).testBit q=true):u.testBit q=true:=by
 obtain⟨r',g1,g2⟩:=h0.up i hiI q hq;rw [hi] at g1;obtain rfl:=fq g1;rcases g2 with g2 | ⟨x,g2,g3⟩
 ·exact (hu q).2 (.inl g2)
 ·obtain⟨k,hk⟩:=kg.1 g2;obtain⟨w,w1,w2⟩:=hans k x hk;refine (hu q).2 (.inr ⟨w,a6 w1,?_⟩);rcases w2 with⟨w2,rfl⟩|⟨w2,w3⟩
  ·rcases g3 with⟨_,g3⟩|⟨g3,_⟩
   ·exact g3
   ·exact absurd w2 g3
  ·obtain⟨u',d1,d2,d3,d4⟩:=wZ hR hD (EO w2).2;rcases g3 with⟨g3,_⟩|⟨_,g3⟩
   ·exact absurd g3 w2
   ·rcases w3 with⟨_,rfl⟩|⟨_,rfl,w5⟩
    ·rw [d3,d4];rcases g3 with⟨_,g3⟩ | g3
     ·exact g3
     ·exact h1.le _ _ g3
    ·rw [Az (h1.lt _)];rcases g3 with⟨g3,_⟩ | g3
     ·exact absurd w5 g3
     ·exact g3
omit h0 hiI in
theorem MU (q:Nat) (hq:u.testBit q=true):RB l inp V i q∧Fb l V inp memo a i q:=by
 rcases (hu q).1 hq with g | ⟨w,g1,g2⟩
 ·exact⟨.own hi g,r,hi,.inl g⟩
 ·obtain⟨k,hk⟩:=kg.1 g1;have hk2:=bc hk;have hx:=bS (l:=r.Asks) (i:=k) (by omega);obtain⟨w',w1,w2⟩:=hans k _ hx;rw [hk] at w1;obtain rfl:=fq w1;have hm:=a6 hx;rcases w2 with⟨w2,rfl⟩|⟨w2,w3⟩
  ·exact⟨.ask hi hm w2 g2,r,hi,.inr ⟨_,hm,.inl ⟨w2,g2⟩⟩⟩
  ·obtain⟨u',d1,d2,d3,d4⟩:=wZ hR hD (EO w2).2;rcases w3 with⟨w3,rfl⟩|⟨_,rfl,w5⟩
   ·rw [d3,d4] at g2;exact⟨.ring hi hm (EO w2).1 (EO w2).2 g2,r,hi,.inr ⟨_,hm,.inr ⟨w2,.inl ⟨w3,g2⟩⟩⟩⟩
   ·rw [Az (h1.lt _)] at g2;exact⟨.ring hi hm (EO w2).1 (EO w2).2 (h1.le _ _ g2),r,hi,.inr ⟨_,hm,.inr ⟨w2,.inr g2⟩⟩⟩
omit h0 hiI hlen in
theorem MT (hau:a i=u):ZY l V inp idx a i:=by
 refine⟨r,hi,fun q hq=>?_,fun x hx=>?_⟩
 ·rw [hau]; exact (hu q).2 (.inl hq)
 ·obtain⟨k,hk⟩:=kg.1 hx;obtain⟨w,w1,w2⟩:=hans k x hk;have hw:∀ q,(gS w).toNat.testBit q=true→(a i).testBit q=true:=fun q hq=>by
   rw [hau]; exact (hu q).2 (.inr ⟨w,a6 w1,hq⟩)
  rcases w2 with⟨w2,rfl⟩|⟨w2,w3⟩
  ·exact⟨fun _ q hq=>hw q hq,fun h=>absurd w2 h⟩
  ·obtain⟨u',d1,d2,d3,d4⟩:=wZ hR hD (EO w2).2;refine⟨fun h=>absurd h w2,fun _=>?_⟩;rcases w3 with⟨_,rfl⟩|⟨w3,rfl,_⟩
   ·exact .inl fun q hq=>hw q (by rw [d3,d4]; exact hq)
   ·exact .inr ⟨w3,fun q hq=>hw q (by rw [Az (h1.lt _)]; exact hq)⟩
end
end
end
section
open Go.RowKit
open Go.Lib hiding intOf
section
variable {l:List aW} {V:Nat→ByteArray} {b:aj} {inp:ah→ByteArray} {vrec:ap→ah→Option (ByteArray×ap)}
def mu (l:List aW) (idx:List Nat) (a:Nat→Nat):Nat:=idx.length+yl a l.length
def Jm (l:List aW) (V:Nat→ByteArray) (b:aj) (inp:ah→ByteArray) (n0:Nat) (memo1:List (ah×ByteArray)) (idx1:List Nat) (a1:Nat→Nat) (k:Nat) :
  (List (ah×ByteArray))×(List ah)×Bool×Int×(List aW)×Int×(List aN)×(List aw)×(List (ah×ByteArray))×(List (ah×(List ah)))→Prop
 | (m,list,ch,p,rules,rev,inps,recs,memo,seen) =>
  ∃ (idx:List Nat) (a:Nat→Nat),p=(k:Int)∧k≤idx.length∧yR l V inp n0 memo m list idx a∧tc l V b (ap.mk rules (aj.mk rev inps recs) memo seen)∧kD memo1 memo ∧
   ((ch=false∧idx=idx1∧a=a1∧∀ (q i:Nat),q<k→idx[q]? = some i→ZY l V inp idx a i)∨(ch=true∧mu l idx1 a1<mu l idx a))
def Jo (l:List aW) (V:Nat→ByteArray) (b:aj) (inp:ah→ByteArray) (n0:Nat) (memo1:List (ah×ByteArray)) (idx1:List Nat) (a1:Nat→Nat) :
  (List (ah×ByteArray))×(List ah)×Bool×(List aW)×Int×(List aN)×(List aw)×(List (ah×ByteArray))×(List (ah×(List ah)))→Prop
 | (m,list,ch,rules,rev,inps,recs,memo,seen) =>
  ∃ (idx:List Nat) (a:Nat→Nat),yR l V inp n0 memo m list idx a∧tc l V b (ap.mk rules (aj.mk rev inps recs) memo seen)∧kD memo1 memo ∧
   ((ch=false∧∀ i∈idx,ZY l V inp idx a i)∨(ch=true∧mu l idx1 a1<mu l idx a))
section
variable {n0:Nat} {memo1:List (ah×ByteArray)} {idx1:List Nat} {a1:Nat→Nat} (hR:bX l) (hD:Fh l inp V) (hv:Lu l V b inp (uy (bG l) n0) vrec)
include hR hD hv
theorem MN {k:Nat} (hk:k≤l.length):∀ s,Jm l V b inp n0 memo1 idx1 a1 k s→Ok (eO vrec s.1 s.2.1 s.2.2.1 s.2.2.2.1 s.2.2.2.2.1 s.2.2.2.2.2.1 s.2.2.2.2.2.2.1 s.2.2.2.2.2.2.2.1 s.2.2.2.2.2.2.2.2.1 s.2.2.2.2.2.2.2.2.2) fun y=>match y with
   | .go s'=>k<l.length∧Jm l V b inp n0 memo1 idx1 a1 (k+1) s'
   | .out y=>Jo l V b inp n0 memo1 idx1 a1 y:=by
 rintro⟨m,list,ch,p,rules,rev,inps,recs,memo,seen⟩ ⟨idx,a,rfl,hkl,h1,h2,h3,h4⟩;dsimp only;have hl8:=hR.high;obtain⟨len1,len2⟩:=h1.len;unfold eO;refine aF (fun hb=>?_) (fun hb=>?_)
 ·have hlt:k<idx.length:=by have:=of_decide_eq_true hb; omega
  have hp:=bS hlt;have hiI:=a6 hp;generalize idx[k]=i at hp hiI;obtain⟨hil,hir,hio⟩:=h1.ring i hiI;have hi:=bS hil;generalize l[i]=r at hi;have hr:r.Ring=true:=by rw [nJ hi] at hir; exact fq hir
  obtain⟨t,ht,_⟩:=vF hR hi (ws:=[]) (by simp);have hget:bu list ((k:Nat):Int)=some (rk l i):=by rw [aZ,h1.eq,uq,hp]; rfl
  have hru:rules=l:=h2.rules;refine aM hget (aM (by rw [hru]; exact ht) ?_);unfold gx;refine I2 hR hv hi hr hp h1 h2 ht ?_;rintro⟨m',list',ch',rules',rev',inps',recs',memo',seen',d',v',ak',at'⟩ ⟨idx',ws,g1,g2,g3,g4,g5,g6,g7,g8⟩;dsimp only;obtain⟨u,hu1,hu2,hu3⟩:=HP hR hi hr ws;rw [hu1] at g8;subst g8;have hp':idx'[k]? = some i:=by
   obtain⟨z,rfl⟩:=g4;rw [m6 hlt]; exact hp
  have hiI':i∈idx':=g4.subset hiI;have hget':bu list' ((k:Nat):Int)=some (rk l i):=by rw [aZ,g1.eq,uq,hp']; rfl
  have hm:=g1.get i hil;rw [if_pos hiI'] at hm;have hlen':=g4.length_le;have hk1:k+1≤idx'.length:=bc hp';have hwr:IntKind.i64.wrap ((k:Int)+1)=((k+1:Nat):Int):=cJ (by omega);unfold fm;refine aM hget' ?_;rw [hm];simp only [B3,ax];by_cases e:a i=u
  ·rw [e,show ((cZ (u:Int)).toList==(cZ (u:Int)).toList)=true by simp];simp only [dh,cond_false];unfold dY;rw [hwr];refine ar ⟨by omega,idx',a,rfl,hk1,g1,g2,h3.trans g3,?_⟩;rcases g5 with⟨e1,e2⟩|⟨e1,e2⟩
   ·subst e1 e2;rcases h4 with⟨q1,q2,q3,q4⟩|⟨q1,q2⟩
    ·refine .inl ⟨q1,q2,q3,fun q j hq hj=>?_⟩;rcases kP q k with hq2 | hq2
     ·exact q4 q j hq2 hj
     ·obtain rfl:q=k:=by omega
      rw [hp'] at hj;obtain rfl:=fq hj;exact MT hR hD hi g1 g7 hu3 e
    ·exact .inr ⟨q1,q2⟩
   ·refine .inr ⟨e1,?_⟩;unfold mu at h4 ⊢;rcases h4 with⟨q1,q2,q3,q4⟩|⟨q1,q2⟩
    ·rw [← q2,← q3]; omega
    ·omega
  ·have hne:((cZ ((a i:Nat):Int)).toList==(cZ (u:Int)).toList)=false:=by
    rw [beq_eq_false_iff_ne];exact fun h=>e (Bz (g1.lt i) hu2 (toList_inj h))
   rw [hne];simp only [my,cond_true];refine aM hget' ?_;unfold dY;rw [hwr];have hlow:=Kj hR hD hi h1 g1 hiI g7 hu3;have hup:=MU hR hD hi g1 g6 g7 hu3;have qd:=g1.set hl8 hiI' hu2 hlow (fun q hq=>(hup q hq).1) (fun q hq=>(hup q hq).2);refine ar ⟨by omega,idx',_,rfl,hk1,qd,g2,h3.trans g3,.inr ⟨rfl,?_⟩⟩;have hle:a i≤u:=Jz hlow;have hs:yl a l.length<yl (fun j=>if j=i then u else a j) l.length:=by
    refine FY (i:=i) (fun j=>?_) ?_ _ hil
    ·show a j≤if j=i then u else a j;split
     ·rename_i hj; rw [hj]; exact hle
     ·exact cX _
    ·show a i<if i=i then u else a i;rw [if_pos rfl]; omega
   unfold mu at h4 ⊢;rcases h4 with⟨q1,q2,q3,q4⟩|⟨q1,q2⟩
   ·rw [← q2,← q3]; omega
   ·omega
 ·have hge:¬ k<idx.length:=by have:=of_decide_eq_false hb; omega
  refine ar ⟨idx,a,h1,h2,h3,?_⟩;rcases h4 with⟨q1,q2,q3,q4⟩|⟨q1,q2⟩
  ·refine .inl ⟨q1,fun i hi=>?_⟩;obtain⟨q,hq⟩:=kg.1 hi;exact q4 q i (by have:=bc hq; omega) hq
  ·exact .inr ⟨q1,q2⟩
def Io (l:List aW) (V:Nat→ByteArray) (b:aj) (inp:ah→ByteArray) (n0:Nat) (memo1:List (ah×ByteArray)) (k:Nat) :
  (List (ah×ByteArray))×(List ah)×Bool×(List aW)×Int×(List aN)×(List aw)×(List (ah×ByteArray))×(List (ah×(List ah)))→Prop
 | (m,list,ch,rules,rev,inps,recs,memo,seen) =>
  ∃ (idx:List Nat) (a:Nat→Nat),yR l V inp n0 memo m list idx a∧tc l V b (ap.mk rules (aj.mk rev inps recs) memo seen)∧kD memo1 memo ∧
   ((ch=false∧∀ i∈idx,ZY l V inp idx a i)∨(ch=true∧k≤mu l idx a))
def Fo (l:List aW) (V:Nat→ByteArray) (b:aj) (inp:ah→ByteArray) (n0:Nat) (memo1:List (ah×ByteArray)) :
  (List (ah×ByteArray))×(List ah)×(List aW)×Int×(List aN)×(List aw)×(List (ah×ByteArray))×(List (ah×(List ah)))→Prop
 | (m,list,rules,rev,inps,recs,memo,seen) =>
  ∃ (idx:List Nat) (a:Nat→Nat),yR l V inp n0 memo m list idx a∧tc l V b (ap.mk rules (aj.mk rev inps recs) memo seen)∧kD memo1 memo∧∀ i∈idx,ZY l V inp idx a i
omit hD hv in
theorem Ig {memo m:List (ah×ByteArray)} {list:List ah} {idx:List Nat} {a:Nat→Nat} (h:yR l V inp n0 memo m list idx a):mu l idx a≤600000:=by
 have:=Aw h.lt l.length;have:=h.len.2;have:=hR.high;unfold mu;omega
theorem MO {k:Nat}:∀ s,Io l V b inp n0 memo1 k s→Ok (eP vrec s.1 s.2.1 s.2.2.1 s.2.2.2.1 s.2.2.2.2.1 s.2.2.2.2.2.1 s.2.2.2.2.2.2.1 s.2.2.2.2.2.2.2.1 s.2.2.2.2.2.2.2.2) fun y=>match y with
   | .go s'=>k<600001∧Io l V b inp n0 memo1 (k+1) s'
   | .out y=>Fo l V b inp n0 memo1 y:=by
 rintro⟨m,list,ch,rules,rev,inps,recs,memo,seen⟩ ⟨idx,a,h1,h2,h3,h4⟩;dsimp only;unfold eP;refine aF (fun hb=>?_) (fun hb=>?_)
 ·subst hb;have h5:k≤mu l idx a:=by
   rcases h4 with⟨h,_⟩|⟨_,h⟩
   ·cases h
   ·exact h
  have hbd:=Ig hR h1;refine cc (Jm l V b inp n0 memo idx a) (Jo l V b inp n0 memo idx a) l.length ⟨idx,a,rfl,cR _,h1,h2,kD.refl _,.inl ⟨rfl,rfl,rfl,fun q i hq=>absurd hq (by omega)⟩⟩
   (fun k s hk hI=>(MN hR hD hv hk s hI).mono fun y hy=>by cases y <;> exact hy) ?_
  rintro⟨m',list',ch',rules',rev',inps',recs',memo',seen'⟩ ⟨idx',a',g1,g2,g3,g4⟩;refine ar ⟨by omega,idx',a',g1,g2,h3.trans g3,?_⟩;rcases g4 with⟨q1,q2⟩|⟨q1,q2⟩
  ·exact .inl ⟨q1,q2⟩
  ·exact .inr ⟨q1,by omega⟩
 ·subst hb;refine ar ⟨idx,a,h1,h2,h3,?_⟩;rcases h4 with⟨_,h⟩|⟨h,_⟩
  ·exact h
  ·cases h
omit hv in
theorem HO {m list memo idx a} (h1:yR l V inp n0 memo m list idx a) (hc:∀ i∈idx,ZY l V inp idx a i) {i:Nat} (hi:i∈idx):cZ ((a i:Nat):Int)=V i:=by
 obtain⟨u,d1,d2,d3,d4⟩:=wZ hR hD (h1.ring i hi).2.1;rw [d1];congr 2;apply Nat.eq_of_testBit_eq;intro q;rw [Bool.eq_iff_iff,d4];exact⟨h1.le i q,fun h=>EE hc h hi⟩
theorem IU {s:ap} (hs:tc l V b s) (hn:n0<l.length) (hr0:(bG l)[n0]? = some true) :
  Ok (ig vrec s (rk l n0)) fun s'=>tc l V b s'∧kD s.Memo s'.Memo∧cK aL (rk l n0) s'.Memo=some (V n0):=by
 have hl8:=hR.high;have hL:ke (rk l n0)=some ⟨#[48]⟩:=by
  unfold ke;rcases rh (l:=l) (n:=n0) with⟨_,h⟩|⟨h,_⟩
  ·exact absurd hr0 h
  ·rw [h]; rfl
 unfold ig;refine aM hL ?_;unfold gy;have hA:yR l V inp n0 s.Memo (eH aL (rk l n0) ⟨#[48]⟩ []) [rk l n0] [n0] (fun _=>0):=by
  refine⟨rfl,by simp,fun i hi=>?_,eG.2 rfl,fun i hi=>?_,fun _ _=>rfl,fun _=>by simp,fun i q hq=>by simp at hq,fun i _ q hq=>by simp at hq⟩
  ·rw [eG.1 hi]; exact⟨hn,hr0,cX _⟩
  ·by_cases e:i=n0
   ·subst e;rw [gB,if_pos (eG.2 rfl),Cn]
   ·rw [lA (fun e2=>e (Ap (by omega) (by omega) e2)),if_neg (by simpa using e)]; rfl
 refine cc (Io l V b inp n0 s.Memo) (Fo l V b inp n0 s.Memo) 600001 ⟨[n0],fun _=>0,hA,hs,kD.refl _,.inr ⟨rfl,cR _⟩⟩
  (fun k s hk hI=>(MO hR hD hv s hI).mono fun y hy=>by cases y <;> exact hy) ?_
 rintro⟨m,list,rules,rev,inps,recs,memo,seen⟩ ⟨idx,a,h1,h2,h3,h4⟩;obtain⟨len1,len2⟩:=h1.len;dsimp only;unfold fk;refine cc (fun (k:Nat) (st:Int×List (ah×ByteArray))=>st.1=k∧k≤idx.length∧tc l V b (ap.mk rules (aj.mk rev inps recs) st.2 seen)∧kD s.Memo st.2∧∀ (q i:Nat),q<k→idx[q]? = some i→cK aL (rk l i) st.2=some (V i))
  (fun memo'=>tc l V b (ap.mk rules (aj.mk rev inps recs) memo' seen)∧kD s.Memo memo'∧cK aL (rk l n0) memo'=some (V n0)) idx.length ⟨rfl,cR _,h2,h3,fun q i hq=>absurd hq (by omega)⟩ ?_ ?_
 ·rintro k ⟨p,memo'⟩ hk ⟨rfl,_,g1,g2,g3⟩;dsimp only;unfold iv;refine aF (fun hb=>?_) (fun hb=>?_)
  ·have hlt:k<idx.length:=by have:=of_decide_eq_true hb; omega
   have hp:=bS hlt;have hiI:=a6 hp;generalize idx[k]=i at hp hiI;obtain⟨hil,_⟩:=h1.ring i hiI;have hget:bu list ((k:Nat):Int)=some (rk l i):=by rw [aZ,h1.eq,uq,hp]; rfl
   refine aM hget ?_;have hm:=h1.get i hil;rw [if_pos hiI,HO hR hD h1 h4 hiI] at hm;rw [hm];simp only [B3,ax];obtain⟨p1,p2⟩:=g1.put hil hl8;refine ar ⟨hlt,cJ (by omega),hlt,p1,g2.trans p2,fun q j hq hj=>?_⟩;rcases kP q k with hq2 | hq2
   ·exact p2 _ _ (g3 q j hq2 hj)
   ·obtain rfl:q=k:=by omega
    rw [hp] at hj;obtain rfl:=fq hj;exact gB _ _ _
  ·have hge:¬ k<idx.length:=by have:=of_decide_eq_false hb; omega
   obtain⟨q,hq⟩:=kg.1 h1.head;exact ar ⟨g1,g2,g3 q n0 (by have:=bc hq; omega) hq⟩
 ·rintro memo' ⟨g1,g2,g3⟩;exact ar ⟨g1,g2,g3⟩
end
end
end
end Go.Proofs.YtmfcloapbgfhaaaGreatDoor
