/- Texts of the proof, joined (1). -/
import Derived.Test.YtcpplgcgcbihoaaGreatDoorD0
import Derived.Maps.RangeRun
import Derived.Test.YtcpplgcgcbihoaaGreatDoorProg
import Derived.Lib.SliceRun
import Derived.Lib.AppendZerosOnto
import Derived.Lib.Overlaps
import Derived.Laws.Externs
import Derived.Shelf.SlSortCmp.WholeK
import Derived.Deep.RegionHeld3
set_option linter.unusedVariables false
set_option linter.unusedSimpArgs false
set_option linter.unusedSectionVars false
namespace Go.Proofs.YtcpplgcgcbihoaaGreatDoor
section
open Go.RowKit
variable {pos:String} {af:Array Edge} {g:Option (Nat×Bool)}
def QZ (P:Program) (t:TypeId):Option (Nat×TypeId):=match P.underlying t with
 | some (.array n e)=>some (n,e)
 | _=>none
theorem Lj {P:Program} {t e:TypeId} {n:Nat} (h:QZ P t=some (n,e)):P.underlying t=some (.array n e):=by
 unfold QZ at h;split at h
 ·rename_i h2; injection h with h; injection h with h3 h4; subst h3 h4; exact h2
 ·cases h
section
variable {P:Program} {W:World} {M T E:Nat->Prop} {n:Nat} {G G':List (Nat×Value)} {D D' D0 Dr rs:List cZ} {F F':List cD} {a:Act} {w w':World} {K:Act->World->Prop}
theorem xz {d:Option Nat} {t e:TypeId} {ty:TypeId} {X Y:Operand} {b o m z c:Nat} {ag:Bool} {k:IntKind} {i:Int} (I:St W M T n G D F a w) (ht:QZ P t=some (m,e)) (he:pQ P e=some (ag,z)) (hX:ev G X=some (.pointer (some ⟨b,o,none⟩))) (hY:ev G Y=some (.int k i)) (hi:((i:Int)==(c:Nat))=true) (hc:Nat.blt c m=true) :
  Ye P ⟨d,.indexAddr t X Y,ty,pos,af,g⟩ a E w (.pointer (some ⟨b,o+c*z,none⟩)):=by
 have hi:i=(c:Int):=by simpa using hi
 have hc:c<m:=du hc;subst hi;refine Ye.of fun w=>?_;simp [execOp,I.ev hX,I.ev hY,Instr.indexAt,asIntOf,run_underlying (Lj ht),Instr.sureAddr,hc,pa he,oy]
end
end
section
open Go.RowKit
def OW {κ ν:Type} (RK:aL κ) (ak:Bool) (RV:aL ν) (av:Bool) (T:Nat->Prop) (W w:World) (rs:List cZ) (b:Nat) (es:Array MapEntry) (ck:Nat) (xs:List (κ×ν)):Prop :=
 w.heap[b]? = some (.map es ck)/\W.heap.size<=b/\cb RK ak RV av (dT T rs) w es xs
theorem Hi {W:World} {b:Nat} {o:Obj} (h:W.heap.size<=b):∀ k,cZ.dom (.obj b o) k->W.heap.size<=k:=fun k O=>by
 simp only [cZ.dom,cp] at O; omega
section
variable {κ ν:Type} {P:Program} {W:World} {M T E:Nat->Prop} {n:Nat} {G:List (Nat×Value)} {D rs:List cZ} {F:List cD} {a:Act} {w:World}
theorem St.retMap {RK:aL κ} {ak:Bool} {RV:aL ν} {av:Bool} {b ck:Nat} {es:Array MapEntry} {xs:List (κ×ν)} (h:St W No T n G D F a w) (hi:Lf D rs) (i:Nat) (hd:D[i]? = some (.obj b (.map es ck))) (j:Nat) (hj:F[j]? = some (qi RK ak RV av es xs)):OW RK ak RV av T W w rs b es ck xs:=by
 have hm:=aK hd;exact⟨h.own _ hm,(h.free _ hm b rfl).2.resolve_left fun h=>h,(h.get j hj:cb RK ak RV av (dT T D) w es xs).keep (aj _ _) fun k O=>.inl (hi.sub k O)⟩
end
end
section
open Go.RowKit
variable {pos:String} {af:Array Edge} {g:Option (Nat×Bool)}
def HR {α:Type} (R:aL α):aL (bC ⊕ α) where
 size:=R.size
 rel:=fun T w cs y=>match y with
  | .inl c=>cs=c/\c.length=R.size/\∀ u∈c,u.oneCell'=true
  | .inr x=>R.rel T w cs x
 len:=fun {T w cs y} h=>by
  cases y with
  | inl c=>obtain⟨rfl,h,_⟩:=h; exact h
  | inr x=>exact R.len h
 one:=fun {T w cs y} h=>by
  cases y with
  | inl c=>obtain⟨rfl,_,h⟩:=h; exact h
  | inr x=>exact R.one h
 keep:=fun {T T' w w' cs y} h k n=>by
  cases y with
  | inl c=>exact h
  | inr x=>exact R.keep h k n
def fU {α:Type} (xs:List α) (i:Int) (cs:bC):List (bC ⊕ α):=(xs.map Sum.inr).set i.toNat (Sum.inl cs)
theorem xV {α:Type} {xs:List α} {i:Int} {cs:bC}:(fU xs i cs).length=xs.length:=by unfold fU; simp
section
variable {α:Type} {R:aL α} {P:Program} {W:World} {M T E:Nat->Prop} {n:Nat} {G:List (Nat×Value)} {D rs:List cZ} {F:List cD} {a:Act} {w:World} {K:Act->World->Prop} {xs:List α} {i:Int} {x:α} {cs cl:bC}
theorem wc (h:bG xs i=some x) (cs:bC):bG (fU xs i cs) i=some (Sum.inl cs):=by
 obtain⟨q1,q2,q3⟩:=gY h;unfold bG fU;have:=(cm.1 q3).1;rw [if_pos q1,yG,if_pos rfl,if_pos (by simpa using this)]
theorem JD (cs cs':bC):(fU xs i cs).set i.toNat (Sum.inl cs')=fU xs i cs':=by
 unfold fU; rw [List.set_set]
theorem Kw {T:Nat->Prop} (h:aY R T w cl xs):aY (HR R) T w cl (xs.map Sum.inr):=by
 refine⟨by rw [pq]; exact h.1,fun k y hy=>?_⟩;rw [ro] at hy;cases hx:xs[k]? with
 | none=>rw [hx] at hy; cases hy
 | some x =>
  rw [hx] at hy;obtain rfl:=cJ hy;exact h.2 k x hx
theorem St.openH (I:St W M T n G D F a w) (j:Nat) (hj:F[j]? = some (ao R cl xs)):St W M T n G D (ao (HR R) cl (xs.map Sum.inr)::F) a w:=I.fact _ (Kw (I.get j hj))
theorem eK {v:Value} {b o p:Nat} (I:St W M T n G D F a w) (j:Nat) (hj:F[j]? = some (ao (HR R) cl (fU xs i cs))) (ho:Lh v b o R.size i p) (hg:bG xs i=some x):∀ k u,cs[k]? = some u->cl[p+k]? = some u:=by
 obtain⟨off,m,c,rfl,rfl,rfl⟩:=ho;obtain⟨q1,q2,q3⟩:=gY (wc hg cs);obtain⟨c2,⟨rfl,_,_⟩,h2⟩:=(I.get j hj:aY (HR R) (dT T D) w cl (fU xs i cs)).2 _ _ q3;exact h2
theorem EW {T:Nat->Prop} (I:aY (HR R) T w cl (fU xs i cs)) (hg:bG xs i=some x):(HR R).rel T w cs (Sum.inl cs):=by
 obtain⟨q1,q2,q3⟩:=gY (wc hg cs);obtain⟨c2,⟨rfl,h1,h2⟩,_⟩:=I.2 _ _ q3;exact⟨rfl,h1,h2⟩
theorem St.closeH {x':α} (I:St W M T n G D F a w) (j:Nat) (hj:F[j]? = some (ao (HR R) cl (fU xs i cs))) (hr:R.rel (dT T D) w cs x'):St W M T n G D (ao R cl (xs.set i.toNat x')::F) a w:=by
 have h:aY (HR R) (dT T D) w cl (fU xs i cs):=I.get j hj;refine I.fact _ ⟨by rw [FK,<- xV (xs:=xs) (i:=i) (cs:=cs)]; exact h.1,fun k y hy=>?_⟩;rw [yG] at hy;by_cases O:i.toNat=k
 ·subst O;rw [if_pos rfl] at hy;split at hy
  ·rename_i hl;obtain rfl:=cJ hy;obtain⟨c2,⟨rfl,_,_⟩,h2⟩:=h.2 i.toNat (Sum.inl cs) (by unfold fU; rw [yG,if_pos rfl,if_pos (by simpa using hl)]);exact⟨_,hr,h2⟩
  ·cases hy
 ·rw [if_neg O] at hy;exact h.2 k (Sum.inr y) (by unfold fU; rw [yG,if_neg O,ro,hy]; rfl)
theorem JK {t ty e:TypeId} {X Y:Operand} {ag:Bool} {z b o k p:Nat} {v u:Value} {us:bC} (I:St W M T n G D F a w) (hX:ev G X=some (.pointer (some ⟨b,o+k,none⟩))) (hY:ev G Y=some u) (hu:u.cells.toList=us) (ht:pQ P t=some (ag,z)) (q:Nat) (hq:D[q]? = some (.own v e R.size cl)) (j:Nat) (hj:F[j]? = some (ao (HR R) cl (fU xs i cs))) (ho:Lh v b o R.size i p) (hg:bG xs i=some x)
  (hz:us.length=z) (hl:Nat.ble (k+z) cs.length=true) (hone:∀ y∈ov cs k us,y.oneCell'=true)
  (K':∀ cl' w',Kt (fun j=>v.ownBlock=some j) w w'->St W M T n G (D.set q (.own v e R.size cl')) (ao (HR R) cl' (fU xs i (ov cs k us))::F) a w'->K a w'):ru P ⟨none,.store t X Y,ty,pos,af,g⟩ a w K:=by
 have hr:(HR R).rel (dT T D) w cs (Sum.inl cs):=EW (I.get j hj) hg;have hlen:(ov cs k us).length=R.size:=by
  have h1:=hr.2.1;have:=du hl;unfold ov;simp only [bm,fe,nr];omega
 exact xY (R:=HR R) (xs:=fU xs i cs) (x:=Sum.inl cs) (x':=Sum.inl (ov cs k us)) (k:=k) (cs:=cs) (us:=us) I hX hY hu ht q hq j hj ho (eK I j hj ho hg) (wc hg cs) hr hz hl ⟨rfl,hlen,hone⟩ fun cl' w' O hS'=>K' cl' w' O (by rw [JD] at hS'; exact hS')
end
end
section
open Go.RowKit
section
variable {κ β:Type} {P:Program} {W:World} {M T E:Nat->Prop} {n:Nat} {G G':List (Nat×Value)} {D D':List cZ} {F F':List cD} {a:Act} {w w':World} {K:Act->World->Prop}
variable {kt et:TypeId} {RK:aL κ} {ak:Bool} {RI:aL β} {e:TypeId} {q:κ->κ->Bool} {b ck:Nat} {es:Array MapEntry} {inn:List BZ} {xs:List (κ×List β)}
end
end
section
open Go.RowKit
section
variable {κ ν:Type} {RK:aL κ} {ak:Bool} {RV:aL ν} {av:Bool}
end
section
variable {κ ν:Type} {P:Program} {W:World} {M T E:Nat->Prop} {n:Nat} {G G':List (Nat×Value)} {D D':List cZ} {F F':List cD} {a:Act} {w w':World} {K:Act->World->Prop}
variable {kt et:TypeId} {RK:aL κ} {ak:Bool} {RV:aL ν} {av:Bool} {q:κ->κ->Bool} {b clock:Nat} {es:Array MapEntry} {xs:List (κ×ν)}
end
end
section
open Go.RowKit
section
variable {P:Program} {ops:Array Oper} {Q:Exit->Act->World->Prop}
end
end
section
open Go.RowKit
theorem KF {α:Type} {xs:List α} {i:Int} {x:α} (h:bG xs i=some x):xs.set i.toNat x=xs:=by
 obtain⟨_,_,h3⟩:=gY h;obtain⟨h4,h5⟩:=cm.1 h3;rw [<- h5]; exact List.set_getElem_self h4
end
section
open Go.RowKit
variable {X Y Z:Operand} {ck:Nat} {t ty:TypeId}
variable {pos:String} {af:Array Edge} {g:Option (Nat×Bool)}
structure mE (es:Array MapEntry) (ck:Nat):Prop where
  lt:∀ (i:Nat) (m:MapEntry),es[i]? = some m->m.born<ck
  inj:∀ (i j:Nat) (m m':MapEntry),es[i]? = some m->es[j]? = some m'->m.born=m'.born->i=j
theorem mE.nil:mE #[] 0:=⟨fun i m h=>by simp at h,fun i j m m' h=>by simp at h⟩
theorem mE.push {es:Array MapEntry} (h:mE es ck) (k v:Value):mE (es.push { key:=k,val:=v,born:=ck }) (ck+1):=by
  have old:∀ (z:Nat) (m:MapEntry),(es.push { key:=k,val:=v,born:=ck })[z]? = some m->(z<es.size/\es[z]? = some m)∨(z=es.size/\m={ key:=k,val:=v,born:=ck }):=by
    intro z m hz;rw [Array.getElem?_push] at hz;split at hz
    · rename_i h; injection hz with hz; exact .inr ⟨h,hz.symm⟩
    · exact .inl ⟨(Cv.1 hz).1,hz⟩
  refine⟨fun z m hz=>?_,fun z z' m m' hz hz' hb=>?_⟩
  · rcases old z m hz with⟨_,h2⟩|⟨rfl,rfl⟩
    · have:=h.lt z m h2; omega
    · exact Nat.lt_succ_self _
  · rcases old z m hz with⟨_,h2⟩|⟨rfl,rfl⟩ <;> rcases old z' m' hz' with⟨_,h2'⟩|⟨rfl,rfl⟩
    · exact h.inj z z' m m' h2 h2' hb
    · have:=h.lt z m h2; simp only at hb; omega
    · have:=h.lt z' m' h2'; simp only at hb; omega
    · rfl
theorem xi {es:Array MapEntry} {p:Nat} {f:MapEntry->MapEntry} {z:Nat} {m:MapEntry} (hz:(es.modify p f)[z]? = some m):∃ m0,es[z]? = some m0/\m=if p=z then f m0 else m0:=by
  rw [FI] at hz;split at hz
  · rename_i h;obtain⟨m0,h1,rfl⟩:=Option.map_eq_some_iff.1 hz;exact⟨m0,h1,by rw [if_pos h]⟩
  · rename_i h; exact⟨m,hz,by rw [if_neg h]⟩
theorem mE.modify {es:Array MapEntry} (h:mE es ck) (p:Nat) (f:MapEntry->MapEntry) (hf:∀ e,(f e).born=e.born):mE (es.modify p f) ck:=by
  have old:∀ (z:Nat) (m:MapEntry),(es.modify p f)[z]? = some m->∃ m0,es[z]? = some m0/\m.born=m0.born:=by
    intro z m hz;obtain⟨m0,h1,rfl⟩:=xi hz;refine⟨m0,h1,?_⟩;split
    · exact hf m0
    · rfl
  refine⟨fun z m hz=>?_,fun z z' m m' hz hz' hb=>?_⟩
  · obtain⟨m0,h1,h2⟩:=old z m hz; rw [h2]; exact h.lt z m0 h1
  · obtain⟨m0,h1,h2⟩:=old z m hz;obtain⟨m1,h3,h4⟩:=old z' m' hz';exact h.inj z z' m0 m1 h1 h3 (by rw [<- h2,<- h4]; exact hb)
theorem mE.find {es:Array MapEntry} {p:Nat} {m0:MapEntry} (h:mE es ck) (hm0:es[p]? = some m0):es.findIdx? (fun m=>(m.born:Int)==(m0.born:Int))=some p:=by
  rw [Array.findIdx?_eq_some_iff_getElem];obtain⟨h1,h2⟩:=Cv.1 hm0;refine⟨h1,by simp [h2],fun z hz=>?_⟩;have hzl:z<es.size:=by omega
  intro h3;have h3:(es[z].born:Int)=(m0.born:Int):=by simpa using h3
  have:=h.inj z p _ _ (Al hzl) hm0 (by omega);omega
def BY (es:Array MapEntry) (ck:Nat):cD:=⟨fun _ _=>mE es ck,fun h _ _=>h⟩
def OT {κ ν:Type} (RK:aL κ) (ak:Bool) (RV:aL ν) (av:Bool) (q:κ->κ->Bool) (es:Array MapEntry) (ck:Nat) (xs:List (κ×ν)) (key:κ) (s:Int):cD :=
  ⟨fun T w=>∃ (u:ν) (p:Nat) (m:MapEntry),cb RK ak RV av T w es (fV q key u xs)/\mE es ck/\es[p]? = some m/\s=m.born/\∀ y,(fV q key u xs).set p (key,y)=fV q key y xs,
   fun h k n=>by obtain⟨u,p,m,h1,h2⟩:=h; exact⟨u,p,m,h1.keep k n,h2⟩⟩
section
variable {κ ν:Type} {P:Program} {W:World} {M T E:Nat->Prop} {n:Nat} {G G':List (Nat×Value)} {D D':List cZ} {F F':List cD} {a:Act} {w w':World} {K:Act->World->Prop}
variable {kt et:TypeId} {RK:aL κ} {ak:Bool} {RV:aL ν} {av:Bool} {q:κ->κ->Bool} {b clock:Nat} {es:Array MapEntry} {xs:List (κ×ν)}
theorem Iq (ht:Ip P t=some (kt,et)) (hK:yI P kt RK ak q) {T:Nat->Prop} {w w0:World} (hr:w.heap[b]? = some (.map es clock)) (hm:cb RK ak RV av T w0 es xs) (hB:mE es clock) {c cv:bC} {key:κ} {val:ν} (hc:RK.rel T w0 c key) (hv:RV.rel T w0 cv val) :
    ∃ es' ck',(Instr.mapUpdate t (.map (some b)) (bB ak c) (bB av cv)).run P w = .ok () { w with heap:=w.heap.setIfInBounds b (.map es' ck') }/\cb RK ak RV av T w0 es' (fV q key val xs)/\mE es' ck':=by
  obtain⟨hl,hkeys⟩:=wm hm;have hf:=r9 hK hc w hl hkeys;have hch:=hK.check false _ _ w _ _ hc;cases hp:uq q key xs with
  | none =>
    obtain⟨_,g2,_⟩:=rP hp;rw [hp] at hf;refine⟨es.push { key:=bB ak c,val:=bB av cv,born:=clock },clock+1,?_,⟨by rw [g2]; simp [hm.1],fun z e x he hx=>?_⟩,hB.push _ _⟩
    · simp [Instr.mapUpdate,run_underlying (nA ht),xg hr,hch,hf,Am,D7 _ hr]
    · rw [g2] at hx;by_cases hz:z<xs.length
      · rw [pp hz] at hx;rw [ON (by rw [hm.1]; exact hz)] at he;exact hm.2 z e x (by rw [<- he]; exact (Al _)) hx
      · rw [sL (by omega)] at hx;obtain rfl:z=xs.length:=by
          rcases iz xs.length z with h | h
          · rw [HQ (by simp; omega)] at hx; cases hx
          · omega
        simp at hx;subst hx;rw [<- hm.1,ME] at he;simp only [cp] at he;subst he;exact⟨⟨c,hc,rfl⟩,cv,hv,rfl⟩
  | some p =>
    obtain⟨x0,hx0,hq0,_,g2,_⟩:=rQ hp;have hpi:p<es.size:=by rw [hm.1]; exact (cm.1 hx0).1
    have he0:es[p]? = some es[p]:=Al hpi;obtain⟨⟨d0,hd0,hk0⟩,_⟩:=hm.2 p _ x0 he0 hx0;have hbits:=hK.bits _ _ _ _ _ _ _ _ hc hd0 hq0;rw [hp] at hf;refine⟨es.modify p fun e=>{ e with key:=bB ak c,val:=bB av cv },clock,?_,⟨by rw [g2]; simp [hm.1],fun z e x he hx=>?_⟩,hB.modify p _ fun _=>rfl⟩
    · have hat:Am es.toList 0 (some p)=some (p,es[p].val):=by simp [Am,he0]
      rw [hat] at hf;have hkt:(Instr.keyThatStays (((es[p]?).map (·.key)).getD (bB ak c)) (bB ak c)).run P w = .ok (bB ak c) w:=by
        rw [he0];simp only [mg,zw,hk0,Instr.keyThatStays,hbits,if_true,Sem.run_pure]
      simp only [Instr.mapUpdate,Sem.run_bind,run_underlying (nA ht),Result.andThen_ok,xg hr,hch,hf,hkt,D7 _ hr]
    · rw [g2] at hx;by_cases hz:p=z
      · subst hz;rw [Df (by rw [<- hm.1]; exact hpi)] at hx;simp only [cp] at hx;subst hx;rw [FI,if_pos rfl,he0] at he;simp only [mg,cp] at he;subst he;exact⟨⟨c,hc,rfl⟩,cv,hv,rfl⟩
      · rw [List.getElem?_set_ne hz] at hx;rw [FI,if_neg hz] at he;exact hm.2 z e x he hx
theorem EY {d:Nat} (RK:aL κ) (ak:Bool) (RV:aL ν) (av:Bool) (I:St W M T n G D F a w) (hn:Nat.blt d n=true)
    (k:∀ b,w.heap.size<=b->∀ a w',Kt No w w'->St W M T n ((d,.map (some b))::G) (.obj b (.map #[] 0)::D) (BY #[] 0::qi RK ak RV av #[] []::F) a w'->K a w'):ru P ⟨some d,.makeMap t none,ty,pos,af,g⟩ a w K :=
  sS RK ak RV av I hn fun b hb a w' O I=>k b hb a w' O (I.fact _ mE.nil)
theorem Hb (I:St W M T n G D F a w) (ht:Ip P t=some (kt,et)) (hK:yI P kt RK ak q) (i:Nat) (hi:D[i]? = some (.obj b (.map es clock))) (j:Nat) (hj:F[j]? = some (qi RK ak RV av es xs)) (jb:Nat) (hb:F[jb]? = some (BY es clock))
    {c cv:bC} {key:κ} {val:ν} (hc:RK.rel (dT T D) w c key) (hv:RV.rel (dT T D) w cv val) (hX:ev G X=some (.map (some b))) (hY:ev G Y=some (bB ak c)) (hZ:ev G Z=some (bB av cv))
    (k:∀ es' ck' w',Kt (fun j=>j=b) w w'->St W M T n G (D.set i (.obj b (.map es' ck'))) (BY es' ck'::qi RK ak RV av es' (fV q key val xs)::F) a w'->K a w'):ru P ⟨none,.mapUpdate t X Y Z,ty,pos,af,g⟩ a w K:=by
  have hr:w.heap[b]? = some (.map es clock):=I.own _ (aK hi);obtain⟨es',ck',hrun,hok,hB⟩:=Iq ht hK hr (I.mapOk j hj) (I.get jb hb) hc hv;refine E0 (w':={ w with heap:=w.heap.setIfInBounds b (.map es' ck') }) (by simp [execOp,I.ev hX,I.ev hY,I.ev hZ,hrun]) (k es' ck' _ ((q9 hr).mono fun j hj=>(cJ hj).symm) ?_);exact ((I.fact (qi RK ak RV av es' _) hok).fact (BY es' ck') hB).turn hi (q9 hr) (r':=.obj b (.map es' ck')) (qU hr).1 fun j hj=>.inl hj
theorem A4 (I:St W M T n G D F a w) (ht:Ip P t=some (kt,et)) (hK:yI P kt RK ak q) (i:Nat) (hi:D[i]? = some (.obj b (.map es clock))) (j:Nat) (hj:F[j]? = some (qi RK ak RV av es xs)) (jb:Nat) (hb:F[jb]? = some (BY es clock))
    {c cv:bC} {key:κ} {val:ν} (hc:RK.rel (dT T D) w c key) (hv:RV.rel (dT T D) w cv val) (hX:ev G X=some (.map (some b))) (hY:ev G Y=some (bB ak c)) (hZ:ev G Z=some (bB av cv))
    (k:∀ es' ck' w',Kt (fun j=>j=b) w w'->St W M T n G (D.set i (.obj b (.map es' ck'))) (BY es' ck'::qi RK ak RV av es' (fV q key val xs)::F) a w'->K a w'):ru P ⟨none,.insert t X Y Z,ty,pos,af,g⟩ a w K :=
  Hb (ty:=ty) (pos:=pos) (af:=af) (g:=g) I ht hK i hi j hj jb hb hc hv hX hY hZ k
theorem Ik {d:Nat} (I:St W M T n G D F a w) (hd:Nat.blt d n=true) (ht:Ip P t=some (kt,et)) (hK:yI P kt RK ak q) (i:Nat) (hi:D[i]? = some (.obj b (.map es clock))) (j:Nat) (hj:F[j]? = some (qi RK ak RV av es xs)) (jb:Nat) (hb:F[jb]? = some (BY es clock))
    {c:bC} {key:κ} (hc:RK.rel (dT T D) w c key) {z:Value} {zc:bC} {z0:ν} (hz:NF P et=some z) (hzc:z=bB av zc) (hz0:RV.rel (dT T D) w zc z0) (hX:ev G X=some (.map (some b))) (hY:ev G Y=some (bB ak c))
    (k:∀ v es' ck' (s:Int) a w',Kt (fun j=>j=b) w w'->St W M T n ((d,.tuple #[v,.int .i64 s])::G) (D.set i (.obj b (.map es' ck'))) (OT RK ak RV av q es' ck' xs key s::F) a w'->K a w'):ru P ⟨some d,.mapEntry t X Y,ty,pos,af,g⟩ a w K:=by
  have hr:w.heap[b]? = some (.map es clock):=I.own _ (aK hi);have hm:=I.mapOk j hj;have hB:mE es clock:=I.get jb hb;obtain⟨hl,hkeys⟩:=wm hm;have hf:=r9 hK hc w hl hkeys;have hch:=hK.check false _ _ w _ _ hc;have hzr:=Ei (P:=P) hz w;cases hp:uq q key xs with
  | none =>
    obtain⟨_,g2,_⟩:=rP hp;rw [hp] at hf;have hrun:(execOp a.eval ⟨some d,.mapEntry t X Y,ty,pos,af,g⟩).run P w = .ok (.value (.tuple #[z,.int .i64 clock])) { w with heap:=w.heap.setIfInBounds b (.map (es.push { key:=bB ak c,val:=z,born:=clock }) (clock+1)) }:=by
      simp [execOp,I.ev hX,I.ev hY,Instr.mapEntry,run_underlying (nA ht),xg hr,hch,hf,Am,D7 _ hr,hzr,goInt]
    refine A7 hrun (k z (es.push { key:=bB ak c,val:=z,born:=clock }) (clock+1) clock _ _ ((q9 hr).mono fun j hj=>(cJ hj).symm) ?_);refine St.put ?_ hd _;refine (I.fact (OT RK ak RV av q _ (clock+1) xs key clock) ?_).turn hi (q9 hr) (r':=.obj b (.map (es.push { key:=bB ak c,val:=z,born:=clock }) (clock+1))) (qU hr).1 fun j hj=>.inl hj;refine⟨z0,xs.length,{ key:=bB ak c,val:=z,born:=clock },⟨by rw [g2]; simp [hm.1],fun y e x he hx=>?_⟩,hB.push _ _,by rw [<- hm.1,ME],rfl,fun y=>by rw [g2,g2,List.set_append_right _ _ (bZ _)]; simp⟩;rw [g2] at hx;by_cases hz:y<xs.length
    · rw [pp hz] at hx;rw [ON (by rw [hm.1]; exact hz)] at he;exact hm.2 y e x (by rw [<- he]; exact (Al _)) hx
    · rw [sL (by omega)] at hx;obtain rfl:y=xs.length:=by
        rcases iz xs.length y with h | h
        · rw [HQ (by simp; omega)] at hx; cases hx
        · omega
      simp at hx;subst hx;rw [<- hm.1,ME] at he;simp only [cp] at he;subst he;exact⟨⟨c,hc,rfl⟩,zc,hz0,hzc⟩
  | some p =>
    obtain⟨x0,hx0,hq0,_,g2,_⟩:=rQ hp;have hpi:p<es.size:=by rw [hm.1]; exact (cm.1 hx0).1
    have hpx:p<xs.length:=(cm.1 hx0).1;have he0:es[p]? = some es[p]:=Al hpi;obtain⟨⟨d0,hd0,hk0⟩,cv0,hcv0,hv0⟩:=hm.2 p _ x0 he0 hx0;have hbits:=hK.bits _ _ _ _ _ _ _ _ hc hd0 hq0;rw [hp] at hf;have hat:Am es.toList 0 (some p)=some (p,es[p].val):=by simp [Am,he0]
    rw [hat] at hf;have hkt:(Instr.keyThatStays es[p].key (bB ak c)).run P w = .ok (bB ak c) w:=by
      simp only [hk0,Instr.keyThatStays,hbits,if_true,Sem.run_pure]
    have hrun:(execOp a.eval ⟨some d,.mapEntry t X Y,ty,pos,af,g⟩).run P w = .ok (.value (.tuple #[es[p].val,.int .i64 es[p].born])) { w with heap:=w.heap.setIfInBounds b (.map (es.modify p fun m=>{ m with key:=bB ak c }) clock) }:=by
      have h5:(Instr.mapEntry t (.map (some b)) (bB ak c)).run P w = .ok (.tuple #[es[p].val,.int .i64 es[p].born]) { w with heap:=w.heap.setIfInBounds b (.map (es.modify p fun m=>{ m with key:=bB ak c }) clock) }:=by
        simp only [Instr.mapEntry,Sem.run_bind,run_underlying (nA ht),Result.andThen_ok,xg hr,hch,hf,hkt,D7 _ hr,Sem.run_pure,goInt,he0,mg,zw]
      simp only [execOp,I.ev hX,I.ev hY,Sem.run_bind,h5,Result.andThen_ok,Sem.run_pure]
    refine A7 hrun (k es[p].val (es.modify p fun m=>{ m with key:=bB ak c }) clock es[p].born _ _ ((q9 hr).mono fun j hj=>(cJ hj).symm) ?_);refine St.put ?_ hd _;refine (I.fact (OT RK ak RV av q _ clock xs key es[p].born) ?_).turn hi (q9 hr) (r':=.obj b (.map (es.modify p fun m=>{ m with key:=bB ak c }) clock)) (qU hr).1 fun j hj=>.inl hj;refine⟨x0.2,p,{ es[p] with key:=bB ak c },⟨by rw [g2]; simp [hm.1],fun y e x he hx=>?_⟩,hB.modify p _ fun _=>rfl,by rw [FI,if_pos rfl,he0]; rfl,rfl,fun y=>by rw [g2,g2,List.set_set]⟩;obtain⟨m0,h1,h2⟩:=xi he;rw [g2,yG] at hx;by_cases hz:p=y
    · subst hz;rw [if_pos rfl,if_pos hpx] at hx;simp only [cp] at hx;subst hx;rw [if_pos rfl] at h2;rw [he0] at h1;obtain rfl:=cJ h1;subst h2;exact⟨⟨c,hc,rfl⟩,cv0,hcv0,hv0⟩
    · rw [if_neg hz] at hx h2;subst h2;exact hm.2 y _ x h1 hx
theorem Il {key:κ} {s:Int} {cv:bC} {val:ν} (I:St W M T n G D F a w) (i:Nat) (hi:D[i]? = some (.obj b (.map es clock))) (j:Nat) (hj:F[j]? = some (OT RK ak RV av q es clock xs key s)) (hv:RV.rel (dT T D) w cv val) (hX:ev G X=some (.map (some b))) (hY:ev G Y=some (.int .i64 s)) (hZ:ev G Z=some (bB av cv))
    (k:∀ es' w',Kt (fun j=>j=b) w w'->St W M T n G (D.set i (.obj b (.map es' clock))) (BY es' clock::qi RK ak RV av es' (fV q key val xs)::F) a w'->K a w'):ru P ⟨none,.entryStore t X Y Z,ty,pos,af,g⟩ a w K:=by
  have hr:w.heap[b]? = some (.map es clock):=I.own _ (aK hi);obtain⟨u,p,m0,hm,hB,hm0,rfl,hset'⟩:(OT RK ak RV av q es clock xs key s).p (dT T D) w:=I.get j hj;have hfi:=hB.find hm0;have hrun:(execOp a.eval ⟨none,.entryStore t X Y Z,ty,pos,af,g⟩).run P w = .ok .skip { w with heap:=w.heap.setIfInBounds b (.map (es.modify p fun m=>{ m with val:=bB av cv }) clock) }:=by
    have h5:(Instr.entryStore t (.map (some b)) (.int .i64 (m0.born:Int)) (bB av cv)).run P w = .ok () { w with heap:=w.heap.setIfInBounds b (.map (es.modify p fun m=>{ m with val:=bB av cv }) clock) }:=by
      simp only [Instr.entryStore,Sem.run_bind,xg hr,Result.andThen_ok,asInt,asIntOf,Sem.run_pure,hfi,D7 _ hr]
    simp only [execOp,I.ev hX,I.ev hY,I.ev hZ,Sem.run_bind,h5,Result.andThen_ok,Sem.run_pure]
  refine E0 hrun (k (es.modify p fun m=>{ m with val:=bB av cv }) _ ((q9 hr).mono fun j hj=>(cJ hj).symm) ?_);refine ((I.fact (qi RK ak RV av (es.modify p fun m=>{ m with val:=bB av cv }) (fV q key val xs)) ?_).fact (BY (es.modify p fun m=>{ m with val:=bB av cv }) clock) (hB.modify p _ fun _=>rfl)).turn hi (q9 hr) (r':=.obj b (.map (es.modify p fun m=>{ m with val:=bB av cv }) clock)) (qU hr).1 fun j hj=>.inl hj;rw [<- hset' val];refine⟨by simp [hm.1],fun y e x he hx=>?_⟩;obtain⟨m1,h1,h2⟩:=xi he;rw [yG] at hx;by_cases hz:p=y
  · subst hz;have hpx:p<(fV q key u xs).length:=by rw [<- hm.1]; exact (Cv.1 h1).1
    rw [if_pos rfl,if_pos hpx] at hx;simp only [cp] at hx;subst hx;rw [if_pos rfl] at h2;subst h2;obtain⟨⟨d,hd,O⟩,_⟩:=hm.2 p m1 _ h1 (cQ hpx);have hkk:(fV q key u xs)[p].1=key:=by
      have h6:=hset' u;have h7:=congrArg (fun l=>l[p]?) h6;simp only [yG,if_true,hpx,cQ hpx,cp] at h7;rw [<- h7]
    exact⟨⟨d,by rw [hkk] at hd; exact hd,O⟩,cv,hv,rfl⟩
  · rw [if_neg hz] at hx h2;subst h2;exact hm.2 y _ x h1 hx
end
end
section
open Go.RowKit
section
variable {P:Program} {a:Act} {w:World} {Q:Exit->Act->World->Prop}
theorem yw {x:Code} (J:Act->World->Prop) (h1:x.wp P (Exit.then J Q) a w) (h2:∀ a w,J a w->Q .normal a w):x.wp P Q a w :=
 wp_mono h1 fun e a w h=>by cases e <;> first | exact h2 a w h | exact h
theorem vl {fn:Func} {R:Ending->World->Prop} (h:bodyPost P fn R .ret a w):bodyPost P fn R .normal a w:=h
end
section
variable {κ ν:Type} {P:Program} {W:World} {M T E:Nat->Prop} {n:Nat} {G G':List (Nat×Value)} {D D':List cZ} {F F':List cD} {a:Act} {w w':World} {K:Act->World->Prop}
variable {kt et:TypeId} {RK:aL κ} {ak:Bool} {RV:aL ν} {av:Bool} {q:κ->κ->Bool} {b r ck:Nat} {es:Array MapEntry} {seen:Array Nat} {xs:List (κ×ν)}
end
end
section
open Go.RowKit
section
variable {P:Program} {W:World} {M T:Nat->Prop} {n d j t:Nat} {G:List (Nat×Value)} {D:List cZ} {F:List cD} {a:Act} {w:World} {ops:Array Oper} {Q:Exit->Act->World->Prop} {rest:List Oper} {o:Oper} {v:Value} {x y:Operand} {ty tt t':TypeId} {pos:String} {af:Array Edge} {want c:Bool} {id:Nat} {l:List Oper} {z:Code}
theorem qy (I:St W M T n G D F a w) (h:Ye P o a No w v) (k:∀ a,St W M T n ((d,v)::G) D F a w->wpList P ops Q rest a w) (hg:o.guard=none:=by rfl) (hd:o.dst=some d:=by rfl) (hn:Nat.blt d n=true:=by rfl):wpList P ops Q (o::rest) a w:=wy I h hg hd hn k
theorem qg (I:St W M T n G D F a w) (hc:c=want) (h:Ye P o a No w v) (k:∀ a,St W M T n ((d,v)::G) D F a w->wpList P ops Q rest a w) (hg:o.guard=some (j,want):=by rfl) (hj:(ops[j]?).bind (·.dst)=some t:=by rfl) (ht:lk G t=some (.bool c):=by rfl) (hd:o.dst=some d:=by rfl) (hn:Nat.blt d n=true:=by rfl):wpList P ops Q (o::rest) a w:=wg I hg hj ht hc (ky I h hd hn k)
theorem qm (I:St W M T n G D F a w) (k:∀ a,St W M T n ((d,v)::G) D F a w->wpList P ops Q rest a w) (hx:ev G x=some v:=by rfl) (hn:Nat.blt d n=true:=by rfl):wpList P ops Q (⟨some d,.move x,ty,pos,af,none⟩::rest) a w:=wy I (K5 I hx) rfl rfl hn k
theorem qa (I:St W M T n G D F a w) (k:∀ a,St W M T n ((d,v)::G) D F a w->wpList P ops Q rest a w) (hx:ev G x=some v:=by rfl) (hn:Nat.blt d n=true:=by rfl):wpList P ops Q (⟨some d,.assign x,ty,pos,af,none⟩::rest) a w:=wy I (FA I hx) rfl rfl hn k
theorem rq (h:∀ K:Act->World->Prop,(∀ a w,z.wp P Q a w->K a w)->wpList P l.toArray (Exit.then K Q) l a w):(Code.seq (Code.region id l.toArray false) z).wp P Q a w:=wp_seq_k fun K hK=>Gp (h K hK)
theorem rz (h:Q .normal a w):wpList P ops Q [] a w:=wpList_nil h
end
end
section
open Go.RowKit
variable {X:Operand} {ag:Bool} {e e' t ty:TypeId} {v:Value}
variable {pos:String} {af:Array Edge} {g:Option (Nat×Bool)}
section
variable {α:Type} {R:aL α} {P:Program} {W:World} {M T E:Nat->Prop} {n:Nat} {G:List (Nat×Value)} {D rs:List cZ} {F:List cD} {a:Act} {w:World} {K:Act->World->Prop} {xs ys:List α} {i:Int} {x:α} {cs cl:bC}
theorem K0 {d:Option Nat} (I:St W M T n G D F a w) (ht:mW P t=some e) (hx:ev G X=some v) (j:Nat) (hj:D[j]? = some (.own v e' R.size cl)) (p:Nat) (hp:F[p]? = some (ao (HR R) cl (fU xs i cs))):Ye P ⟨d,.call { callee:=.builtin .len,args:=#[X],argTypes:=#[t] },ty,pos,af,g⟩ a E w (.int .i64 xs.length):=by
  have h:=K1 (R:=HR R) (xs:=fU xs i cs) (d:=d) (ty:=ty) (pos:=pos) (af:=af) (g:=g) (E:=E) I ht hx j hj p hp;rw [xV] at h;exact h
theorem LH {lo hi:Int} (I:St W M T n G D F a w) (ht:mW P t=some e) (he:pQ P e=some (ag,R.size)) (q:Nat) (hq:D[q]? = some (.own v e' R.size cl)) (j:Nat) (hj:F[j]? = some (ao (HR R) cl (fU xs i cs))) (hg:tY xs lo hi=some ys) :
    ∃ v',(∀ (T:Nat->Prop) (w:World),aG R T w v xs->aG R T w v' ys)/\(∀ {E:Nat->Prop} {d:Option Nat} {ty:TypeId} {X:Operand} {olo ohi:Option Operand} {pos:String} {af:Array Edge} {g:Option (Nat×Bool)} {k1 k2:IntKind},ev G X=some v->((∃ x,olo=some x/\ev G x=some (.int k1 lo))∨(olo=none/\lo=0))->((∃ x,ohi=some x/\ev G x=some (.int k2 hi))∨(ohi=none/\hi=xs.length))->Ye P ⟨d,.slice t X olo ohi none,ty,pos,af,g⟩ a E w v'):=by
  obtain⟨q1,q2,q3,rfl⟩:=wu hg;obtain⟨A,c,hv,h1,h2,hS'⟩:=QH (R:=HR R) (xs:=fU xs i cs) (lo:=lo.toNat) (hi:=hi.toNat) I q hq j hj (by omega) (by rw [xV]; omega);rw [xV] at hv h1;refine⟨_,fun T w h=>?_,fun hX hlo hhi=>QO I ht he q1 q2 q3 h1 hv hX hlo hhi⟩;subst hv;refine h.cut (by omega) (by omega) _ (fun hlt b o U=>?_);rw [if_neg (by omega),U];simp [oy,HR]
theorem JJ {d:Nat} {Y:Operand} {k:IntKind} (I:St W M T n G D F a w) (ht:mW P t=some e) (he:pQ P e=some (ag,R.size)) (hX:ev G X=some v) (hY:ev G Y=some (.int k i)) (q:Nat) (hq:D[q]? = some (.own v e' R.size cl)) (j:Nat) (hj:F[j]? = some (ao (HR R) cl (fU xs i cs))) (hg:bG xs i=some x) (hn:Nat.blt d n=true)
    (K':∀ b o p,Lh v b o R.size i p->(∀ k u,cs[k]? = some u->cl[p+k]? = some u)->∀ a,St W M T n ((d,.pointer (some ⟨b,o,none⟩))::G) D F a w->K a w):ru P ⟨some d,.indexAddr t X Y,ty,pos,af,g⟩ a w K :=
  eQ (R:=HR R) I ht he hX hY q hq j hj (wc hg cs) hn fun b o p c hr ho hc=>by
    obtain⟨rfl,_,_⟩:=hr;exact K' b o p ho hc
theorem pA {Y:Operand} {z b o k p:Nat} {u:Value} {us:bC} (I:St W M T n G D F a w) (hX:ev G X=some (.pointer (some ⟨b,o+k,none⟩))) (hY:ev G Y=some u) (hu:u.cells.toList=us) (ht:pQ P t=some (ag,z)) (q:Nat) (hq:D[q]? = some (.own v e R.size cl)) (j:Nat) (hj:F[j]? = some (ao (HR R) cl (fU xs i cs))) (ho:Lh v b o R.size i p) (hg:bG xs i=some x)
    (hz:us.length=z) (hl:Nat.ble (k+z) cs.length=true) (hone:∀ y∈us,y.oneCell'=true)
    (K':∀ cl' w',Kt (fun j=>v.ownBlock=some j) w w'->St W M T n G (D.set q (.own v e R.size cl')) (ao (HR R) cl' (fU xs i (ov cs k us))::F) a w'->K a w'):ru P ⟨none,.store t X Y,ty,pos,af,g⟩ a w K :=
  JK I hX hY hu ht q hq j hj ho hg hz hl (fun y hy=>by
    have hr:(HR R).rel (dT T D) w cs (Sum.inl cs):=EW (I.get j hj) hg;unfold ov at hy;simp only [de] at hy;rcases hy with (hy | hy) | hy
    · exact hr.2.2 y (HX hy)
    · exact hone y hy
    · exact hr.2.2 y (HW hy)) K'
theorem St.zc (I:St W M T n G D F a w) (j:Nat) (hj:F[j]? = some (ao (HR R) cl (fU xs i cs))) (hg:bG xs i=some x) (hr:R.rel (dT T D) w cs x):St W M T n G D (ao R cl xs::F) a w:=by
  have h:=I.closeH j hj hr;rw [KF hg] at h;exact h
def A8 {α:Type} (p:List α) (cs:bC):List (bC ⊕ α):=p.map Sum.inr++[Sum.inl cs]
theorem CG {p:List α} (h:i.toNat=p.length):fU (p++[x]) i cs=A8 p cs:=by
  unfold fU A8;rw [h,BS,List.set_append_right _ _ (by simp)];simp
theorem Ka (I:St W M T n G D F a w) (q:Nat) (hq:D[q]? = some (.own v e R.size cl)) (j:Nat) (hj:F[j]? = some (ao R cl xs)):xs.length<=maxLen:=by
  obtain⟨h1,h2⟩:=I.own _ (aK hq);have h3:aY R (dT T D) w cl xs:=I.get j hj;obtain⟨A,m,c,rfl,h4,h5,h6,_⟩:=h1.form h2;have:m=xs.length:=xG h2 (h4.symm.trans h3.1);omega
theorem JS {p:List α} {x e:α} (hb:p.length<=maxLen) (h:bG (p++[x]) (IntKind.i64.wrap (((p++[x]).length:Int)-1))=some e):x=e/\(IntKind.i64.wrap (((p++[x]).length:Int)-1)).toNat=p.length:=by
  obtain⟨h1,h2,h3⟩:=gY h;have hl:(p++[x]).length=p.length+1:=by simp
  unfold maxLen at hb;have hw:IntKind.i64.wrap (((p++[x]).length:Int)-1)=p.length:=by rw [IntKind.wrap_i64,hl]; omega
  rw [hw] at h3 ⊢;refine⟨?_,by simp⟩;simpa using h3
theorem St.closeLast {p:List α} (I:St W M T n G D F a w) (j:Nat) (hj:F[j]? = some (ao (HR R) cl (A8 p cs))) (hr:R.rel (dT T D) w cs x):St W M T n G D (ao R cl (p++[x])::F) a w:=by
  have h:=I.closeH (R:=R) (xs:=p++[x]) (i:=(p.length:Int)) (cs:=cs) j (by rw [CG (by simp)]; exact hj) hr;rw [show (p++[x]).set ((p.length:Int)).toNat x=p++[x] by simp] at h;exact h
end
section
variable {α:Type} {R:aL α} {P:Program} {W:World} {M T E:Nat->Prop} {n:Nat} {G:List (Nat×Value)} {D rs:List cZ} {F:List cD} {a:Act} {w:World} {K:Act->World->Prop} {xs ys zs:List α} {v0 v1 v2:Value}
end
section
variable {W:World} {M T:Nat->Prop} {n:Nat} {G G2:List (Nat×Value)} {D rs:List cZ} {F F2 F0:List cD} {a:Act} {w:World}
def qj (W:World) (M:Nat->Prop) (rs:List cZ) (F0:List cD):cD :=
  ⟨fun T w=>(∀ r∈rs,r.ok w)/\(∀ r∈rs,∀ k,r.dom k->¬ T k/\(M k∨W.heap.size<=k))/\(rs.Pairwise fun (r s:cZ)=>∀ (k:Nat),r.dom k->¬ s.dom k)/\∀ f∈F0,f.p (dT T rs) w,
   fun h k n=>⟨fun r hr=>cZ.keep (h.1 r hr) fun j hj=>k.block j (cZ.lt (h.1 r hr) j hj) (h.2.1 r hr j hj).1,
     fun r hr j hj=>⟨fun hT=>by
       rcases n j hT with h1 | h1
       · exact (h.2.1 r hr j hj).1 h1
       · have:=cZ.lt (h.1 r hr) j hj; omega,(h.2.1 r hr j hj).2⟩,h.2.2.1,
     fun f hf=>f.keep (h.2.2.2 f hf) (k.mono fun j hj=>.inl hj) fun j hj=>by
       rcases hj with hj | hj
       · rcases n j hj with h1 | h1
         · exact .inl (.inl h1)
         · exact .inr h1
       · exact .inl (.inr hj)⟩⟩
theorem St.snap (I:St W M T n G D F2 a w) (hY:St W M T n G2 (rs++D) F a w):St W M T n G D (qj W M rs F::F2) a w :=
  I.fact _ ⟨fun r hr=>hY.own r (mD _ hr),fun r hr k O=>⟨by
      rintro (hT | ⟨s,hs,hT⟩)
      · exact (hY.free r (mD _ hr) k O).1 hT
      · exact (tv.1 hY.apart).2.2 r hr s hs k O hT,(hY.free r (mD _ hr) k O).2⟩,(tv.1 hY.apart).1,
    fun f hf=>f.keep (hY.facts f hf) (aj _ _) fun k O=>.inl (by
      rcases O with (O | ⟨s,hs,O⟩) | ⟨r,hr,O⟩
      · exact .inl O
      · exact .inr ⟨s,vW _ hs,O⟩
      · exact .inr ⟨r,mD _ hr,O⟩)⟩
theorem St.thaw (I:St W M T n G D F a w) (i:Nat) (hi:F[i]? = some (qj W M rs F0)):St W M T n G (rs++D) F0 a w:=by
  obtain⟨h1,h2,h3,h4⟩:=(show (qj W M rs F0).p _ _ from I.get i hi);refine⟨I.size,I.defers,I.slots,I.base,fun r hr=>?_,fun r hr k O=>?_,tv.2 ⟨h3,I.apart,fun r hr s hs k O hk2=>(h2 r hr k O).1 (.inr ⟨s,hs,hk2⟩)⟩,fun f hf=>f.keep (h4 f hf) (aj _ _) fun k O=>.inl ?_,I.tlt⟩
  · rcases de.1 hr with hr | hr
    · exact h1 r hr
    · exact I.own r hr
  · rcases de.1 hr with hr | hr
    · exact⟨fun hT=>(h2 r hr k O).1 (.inl hT),(h2 r hr k O).2⟩
    · exact I.free r hr k O
  · rcases O with O | ⟨s,hs,O⟩
    · exact .inl (.inl O)
    · rcases de.1 hs with hs | hs
      · exact .inr ⟨s,hs,O⟩
      · exact .inl (.inr ⟨s,hs,O⟩)
end
end
section
open Go.RowKit
structure ae where
  k:Int
  t:ByteArray
def ac:aL ae where
  size:=2
  rel:=fun _ _ cs x=>cs=[.int .i64 x.k,.string x.t]
  len:=by rintro _ _ _ _ rfl; rfl
  one:=by rintro _ _ _ _ rfl; exact (oc rfl (oc rfl on))
  keep:=fun h _ _=>h
structure aA where
  d:ae
  u:ByteArray
  v:(List ae)
  c:Int
  l:Int
  j:Int
  d1:Bool
def aa:aL aA where
  size:=8
  rel:=fun T w cs x=>∃ v1,cs=[.int .i64 x.d.k,.string x.d.t,.string x.u,v1,.int .i64 x.c,.int .i64 x.l,.int .i64 x.j,.bool x.d1]/\aG ac T w v1 x.v
  len:=by rintro _ _ _ _ ⟨v1,rfl,hv1⟩; rfl
  one:=by rintro _ _ _ _ ⟨v1,rfl,hv1⟩; exact (oc rfl (oc rfl (oc rfl (oc hv1.one (oc rfl (oc rfl (oc rfl (oc rfl on))))))))
  keep:=by rintro _ _ _ _ _ _ ⟨v1,rfl,hv1⟩ k n; exact⟨v1,rfl,hv1.keep k n⟩
structure be where
  d:ae
  u:ByteArray
  c:Int
def ab:aL be where
  size:=4
  rel:=fun _ _ cs x=>cs=[.int .i64 x.d.k,.string x.d.t,.string x.u,.int .i64 x.c]
  len:=by rintro _ _ _ _ rfl; rfl
  one:=by rintro _ _ _ _ rfl; exact (oc rfl (oc rfl (oc rfl (oc rfl on))))
  keep:=fun h _ _=>h
structure ar where
  r:Int
  i:(List be)
  s:(List aA)
theorem O7:aP aO 122=true:=by kernel_rfl
theorem O8:aP aO 123=true:=by kernel_rfl
theorem MS:aP aO 124=true:=by kernel_rfl
theorem O9:aP aO 125=true:=by kernel_rfl
theorem Pa:aP aO 126=true:=by kernel_rfl
theorem GW:aP aO 147=true:=by kernel_rfl
theorem EB:aP aO 152=true:=by kernel_rfl
theorem EC:aP aO 157=true:=by kernel_rfl
theorem Pq:aP aO 160=true:=by kernel_rfl
theorem Pw:aP aO 176=true:=by kernel_rfl
theorem Jg:aP aO 177=true:=by kernel_rfl
theorem Px:aP aO 178=true:=by kernel_rfl
theorem Py:aP aO 179=true:=by kernel_rfl
theorem Pz:aP aO 180=true:=by kernel_rfl
theorem M0:aP aO 196=true:=by kernel_rfl
theorem M1:aP aO 197=true:=by kernel_rfl
theorem PG:aP aO 198=true:=by kernel_rfl
theorem PI:aP aO 218=true:=by kernel_rfl
theorem PJ:aP aO 219=true:=by kernel_rfl
theorem PK:aP aO 220=true:=by kernel_rfl
theorem M8:aP aO 221=true:=by kernel_rfl
theorem PQ:aP aO 249=true:=by kernel_rfl
theorem PR:aP aO 250=true:=by kernel_rfl
theorem Dy:B7 aO 22=some (91,4,48):=by kernel_rfl
theorem tK:B7 aO 23=some (33,8,96):=by kernel_rfl
theorem LP:B7 aO 26=some (3,1,8):=by kernel_rfl
theorem kG:B7 aO 31=some (30,2,24):=by kernel_rfl
theorem P8:Tryz.prog.underlying 241=some (.interface (Tryz.prog.methodsAt 241)):=by kernel_rfl
theorem mixed:Tryz.prog.follows .mixedOrders=true:=by kernel_rfl
theorem Cu:mW aO 22=some 91:=by kernel_rfl
theorem rb:mW aO 23=some 33:=by kernel_rfl
theorem IH:mW aO 26=some 3:=by kernel_rfl
theorem qQ:mW aO 31=some 30:=by kernel_rfl
theorem Sd:pQ aO 22=some (false,1):=by kernel_rfl
theorem gF:pQ aO 25=some (true,3):=by kernel_rfl
theorem Ea:pQ aO 3=some (false,1):=by kernel_rfl
theorem ix:pQ aO 30=some (true,2):=by kernel_rfl
theorem Gy:pQ aO 31=some (false,1):=by kernel_rfl
theorem ow:pQ aO 33=some (true,8):=by kernel_rfl
theorem OD:pQ aO 4=some (false,1):=by kernel_rfl
theorem Ld:pQ aO 9=some (false,1):=by kernel_rfl
theorem BJ:pQ aO 91=some (true,4):=by kernel_rfl
theorem ph:gj aO 25=some [.int .i64 0,.slice none 0 0,.slice none 0 0]:=by kernel_rfl
theorem Q3:gj aO 3=some [.int .i64 0]:=by kernel_rfl
theorem ge:gj aO 33=some [.int .i64 0,.string cg,.string cg,.slice none 0 0,.int .i64 0,.int .i64 0,.int .i64 0,.bool false]:=by kernel_rfl
theorem wE:gj aO 91=some [.int .i64 0,.string cg,.string cg,.int .i64 0]:=by kernel_rfl
end
section
open Go.RowKit
structure br where
  L:(List Int)
  i1:Int
structure eV where
  d:ae
  u:ByteArray
def bA:aL eV where
  size:=3
  rel:=fun _ _ cs x=>cs=[.int .i64 x.d.k,.string x.d.t,.string x.u]
  len:=by rintro _ _ _ _ rfl; rfl
  one:=by rintro _ _ _ _ rfl; exact (oc rfl (oc rfl (oc rfl on)))
  keep:=fun h _ _=>h
structure fh where
  t1:Bool
  c1:Bool
  N:Int
  u1:Int
def fo:aL fh where
  size:=4
  rel:=fun _ _ cs x=>cs=[.bool x.t1,.bool x.c1,.int .i64 x.N,.int .i64 x.u1]
  len:=by rintro _ _ _ _ rfl; rfl
  one:=by rintro _ _ _ _ rfl; exact (oc rfl (oc rfl (oc rfl (oc rfl on))))
  keep:=fun h _ _=>h
structure aS where
  o:Bool
  g:(List fh)
  p:Int
  C:Int
def aB:aL aS where
  size:=4
  rel:=fun T w cs x=>∃ v1,cs=[.bool x.o,v1,.int .i64 x.p,.int .i64 x.C]/\aG fo T w v1 x.g
  len:=by rintro _ _ _ _ ⟨v1,rfl,hv1⟩; rfl
  one:=by rintro _ _ _ _ ⟨v1,rfl,hv1⟩; exact (oc rfl (oc hv1.one (oc rfl (oc rfl on))))
  keep:=by rintro _ _ _ _ _ _ ⟨v1,rfl,hv1⟩ k n; exact⟨v1,rfl,hv1.keep k n⟩
theorem O4:aP aO 100=true:=by kernel_rfl
theorem MR:aP aO 121=true:=by kernel_rfl
theorem Po:aP aO 153=true:=by kernel_rfl
theorem Lw:aP aO 26=true:=by kernel_rfl
theorem Ro:aP aO 35=true:=by kernel_rfl
theorem Rq:aP aO 41=true:=by kernel_rfl
theorem RF:aP aO 72=true:=by kernel_rfl
theorem nP:aP aO 73=true:=by kernel_rfl
theorem NX:aP aO 91=true:=by kernel_rfl
theorem Ju:B7 aO 148=some (147,4,24):=by kernel_rfl
theorem LQ:B7 aO 34=some (150,4,48):=by kernel_rfl
theorem zY:B7 aO 42=some (9,1,16):=by kernel_rfl
theorem P5:B7 aO 64=some (153,3,40):=by kernel_rfl
theorem Nq:BW aO 147=some [(0,1),(1,1),(2,1),(3,1)]:=by kernel_rfl
theorem Hk:BW aO 150=some [(0,1),(1,1),(2,1),(3,1)]:=by kernel_rfl
theorem Qq:BW aO 153=some [(0,2),(2,1)]:=by kernel_rfl
theorem DV:BW aO 30=some [(0,1),(1,1)]:=by kernel_rfl
theorem R7:BW aO 84=some [(0,1),(1,1)]:=by kernel_rfl
theorem KK:mW aO 148=some 147:=by kernel_rfl
theorem za:mW aO 34=some 150:=by kernel_rfl
theorem II:mW aO 42=some 9:=by kernel_rfl
theorem KU:pQ aO 147=some (true,4):=by kernel_rfl
theorem sY:pQ aO 150=some (true,4):=by kernel_rfl
theorem C2:pQ aO 153=some (true,3):=by kernel_rfl
theorem BT:gj aO 147=some [.bool false,.bool false,.int .i64 0,.int .i64 0]:=by kernel_rfl
theorem u6:gj aO 150=some [.bool false,.slice none 0 0,.int .i64 0,.int .i64 0]:=by kernel_rfl
theorem BU:gj aO 153=some [.int .i64 0,.string cg,.string cg]:=by kernel_rfl
theorem iA:gj aO 30=some [.int .i64 0,.string cg]:=by kernel_rfl
theorem Sg:gj aO 84=some [.slice none 0 0,.int .i64 0]:=by kernel_rfl
theorem OQ:gj aO 9=some [.string cg]:=by kernel_rfl
theorem Ge {W:World} {M T E:Nat->Prop} {n:Nat} {G:List (Nat×Value)} {D:List cZ} {F:List cD} {a:Act} {w:World} {d:Option Nat} {t2:TypeId} {x y:Operand} {ty:TypeId} {pos:String} {af:Array Edge} {g:Option (Nat×Bool)} {p0 q0:Int} {p1 q1:ByteArray} (I:St W M T n G D F a w) (hx:ev G x=some (.agg #[.int .i64 p0,.string p1])) (hy:ev G y=some (.agg #[.int .i64 q0,.string q1])):Ye aO ⟨d,.binOp .eql 30 x y t2,ty,pos,af,g⟩ a E w (.bool (p0==q0&&p1.toList==q1.toList)) :=
  Ye.of fun w=>by
    have h1:=I.ev hx
    have h2:=I.ev hy
    clear I hx hy
    simp only [execOp,h1,h2,eqGuard]
    simp [go_sem]
    (repeat' split) <;> simp_all
theorem AX {W:World} {M T E:Nat->Prop} {n:Nat} {G:List (Nat×Value)} {D:List cZ} {F:List cD} {a:Act} {w:World} {d:Option Nat} {t2:TypeId} {x y:Operand} {ty:TypeId} {pos:String} {af:Array Edge} {g:Option (Nat×Bool)} {p0 q0:Int} {p1 q1:ByteArray} (I:St W M T n G D F a w) (hx:ev G x=some (.agg #[.int .i64 p0,.string p1])) (hy:ev G y=some (.agg #[.int .i64 q0,.string q1])):Ye aO ⟨d,.binOp .neq 30 x y t2,ty,pos,af,g⟩ a E w (.bool (!(p0==q0&&p1.toList==q1.toList))) :=
  Ye.of fun w=>by
    have h1:=I.ev hx
    have h2:=I.ev hy
    clear I hx hy
    simp only [execOp,h1,h2,eqGuard]
    simp [go_sem]
    (repeat' split) <;> simp_all
theorem P7 {W:World} {M T E:Nat->Prop} {n:Nat} {G:List (Nat×Value)} {D:List cZ} {F:List cD} {a:Act} {w:World} {d:Option Nat} {t2:TypeId} {x y:Operand} {ty:TypeId} {pos:String} {af:Array Edge} {g:Option (Nat×Bool)} {p0 q0:Int} {p1 q1:ByteArray} {p2 q2:ByteArray} {p3 q3:Int} (I:St W M T n G D F a w) (hx:ev G x=some (.agg #[.int .i64 p0,.string p1,.string p2,.int .i64 p3])) (hy:ev G y=some (.agg #[.int .i64 q0,.string q1,.string q2,.int .i64 q3])):Ye aO ⟨d,.binOp .neq 91 x y t2,ty,pos,af,g⟩ a E w (.bool (!(p0==q0&&p1.toList==q1.toList&&p2.toList==q2.toList&&p3==q3))) :=
  Ye.of fun w=>by
    have h1:=I.ev hx
    have h2:=I.ev hy
    clear I hx hy
    simp only [execOp,h1,h2,eqGuard]
    simp [go_sem]
    (repeat' split) <;> simp_all
end
section
open Go.RowKit
theorem O5:aP aO 111=true:=by kernel_rfl
theorem GS:aP aO 120=true:=by kernel_rfl
theorem tG:aP aO 143=true:=by kernel_rfl
theorem Pn:aP aO 149=true:=by kernel_rfl
theorem GX:aP aO 150=true:=by kernel_rfl
theorem MV:aP aO 151=true:=by kernel_rfl
theorem Pr:aP aO 169=true:=by kernel_rfl
theorem PE:aP aO 187=true:=by kernel_rfl
theorem MZ:aP aO 192=true:=by kernel_rfl
theorem NS:aP aO 32=true:=by kernel_rfl
theorem AK:aP aO 95=true:=by kernel_rfl
theorem F8:aP aO 96=true:=by kernel_rfl
theorem yN:aP aO 97=true:=by kernel_rfl
theorem LE:aP aO 98=true:=by kernel_rfl
theorem F9:aP aO 99=true:=by kernel_rfl
theorem Mc:BW aO 91=some [(0,2),(2,1),(3,1)]:=by kernel_rfl
theorem IJ:mW aO 64=some 153:=by kernel_rfl
end
section
open Go.RowKit
structure bR where
  d:ae
  w:Bool
  i1:Int
  v:(List ae)
  e:(List ByteArray)
def az:aL bR where
  size:=6
  rel:=fun T w cs x=>∃ v1 v2,cs=[.int .i64 x.d.k,.string x.d.t,.bool x.w,.int .i64 x.i1,v1,v2]/\aG ac T w v1 x.v/\aG aL.str T w v2 x.e
  len:=by rintro _ _ _ _ ⟨v1,v2,rfl,hv1,hv2⟩; rfl
  one:=by rintro _ _ _ _ ⟨v1,v2,rfl,hv1,hv2⟩; exact (oc rfl (oc rfl (oc rfl (oc rfl (oc hv1.one (oc hv2.one on))))))
  keep:=by rintro _ _ _ _ _ _ ⟨v1,v2,rfl,hv1,hv2⟩ k n; exact⟨v1,v2,rfl,hv1.keep k n,hv2.keep k n⟩
structure eP where
  x:(List aS)
  b:ar
  b1:(List ae)
  s1:(List bR)
  r1:(List ae)
structure dY where
  x1:ae
  k1:ae
def gt:aL dY where
  size:=4
  rel:=fun _ _ cs x=>cs=[.int .i64 x.x1.k,.string x.x1.t,.int .i64 x.k1.k,.string x.k1.t]
  len:=by rintro _ _ _ _ rfl; rfl
  one:=by rintro _ _ _ _ rfl; exact (oc rfl (oc rfl (oc rfl (oc rfl on))))
  keep:=fun h _ _=>h
theorem O6:aP aO 116=true:=by kernel_rfl
theorem Jb:aP aO 117=true:=by kernel_rfl
theorem MQ:aP aO 119=true:=by kernel_rfl
theorem Je:aP aO 140=true:=by kernel_rfl
theorem Ps:aP aO 170=true:=by kernel_rfl
theorem MW:aP aO 171=true:=by kernel_rfl
theorem PB:aP aO 182=true:=by kernel_rfl
theorem MX:aP aO 183=true:=by kernel_rfl
theorem M2:aP aO 206=true:=by kernel_rfl
theorem Nb:aP aO 246=true:=by kernel_rfl
theorem Nc:aP aO 247=true:=by kernel_rfl
theorem NT:aP aO 38=true:=by kernel_rfl
theorem sN:aP aO 40=true:=by kernel_rfl
theorem Ib:aP aO 92=true:=by kernel_rfl
theorem xT:B7 aO 137=some (202,6,88):=by kernel_rfl
theorem Ng:B7 aO 253=some (257,4,48):=by kernel_rfl
theorem DC:Ie aO 202 3=some 4:=by kernel_rfl
theorem DD:Ie aO 202 4=some 5:=by kernel_rfl
theorem wM:Ip aO 166=some (30,4):=by kernel_rfl
theorem Kc:BW aO 139=some [(0,1),(1,3),(4,1),(5,1),(6,1)]:=by kernel_rfl
theorem Qt:BW aO 257=some [(0,2),(2,2)]:=by kernel_rfl
theorem Og:BW aO 33=some [(0,2),(2,1),(3,1),(4,1),(5,1),(6,1),(7,1)]:=by kernel_rfl
theorem vL:mW aO 137=some 202:=by kernel_rfl
theorem Nv:pQ aO 137=some (false,1):=by kernel_rfl
theorem t8:pQ aO 139=some (true,7):=by kernel_rfl
theorem vN:pQ aO 202=some (true,6):=by kernel_rfl
theorem Gz:pQ aO 42=some (false,1):=by kernel_rfl
theorem vY:gj aO 139=some [.slice none 0 0,.int .i64 0,.slice none 0 0,.slice none 0 0,.slice none 0 0,.slice none 0 0,.slice none 0 0]:=by kernel_rfl
theorem ub:gj aO 202=some [.int .i64 0,.string cg,.bool false,.int .i64 0,.slice none 0 0,.slice none 0 0]:=by kernel_rfl
theorem HY:gj aO 257=some [.int .i64 0,.string cg,.int .i64 0,.string cg]:=by kernel_rfl
theorem OR:NF aO 4=some (.bool false):=by kernel_rfl
def aR (a b:ae):Bool:=a.k==b.k&&a.t.toList==b.t.toList
theorem eW:yI aO 30 ac true aR where
  check:=by
    rintro b T w0 w c x rfl
    show (Instr.checkKey b (Nat.succ (Nat.succ 9998)) 30 _).run aO w=_
    generalize 9998=N
    simp [Instr.checkKey,bB,go_sem]
  eq:=by
    rintro T T2 w0 w1 w c d x y rfl rfl
    unfold aR Op.equal
    show (Op.equalIn (Nat.succ (Nat.succ 9998)) 30 _ _).run aO w=_
    generalize 9998=N
    simp [Op.equalIn,bB,beq_toListBytes,go_sem]
    (try (repeat' split) <;> simp_all)
  now:=⟨_,Tryz.underlying30,by rintro T T2 w0 w1 c d x y rfl rfl; first | (exact .inl rfl) | (right; unfold aR; simp [bB,Instr.sameNow,beq_toListBytes])⟩
  bits:=by
    rintro T T2 w0 w1 c d x y rfl rfl h
    unfold aR at h
    show Instr.sameBits (Nat.succ (Nat.succ 9998)) _ _=_
    generalize 9998=N
    simp [bB,Instr.sameBits,beq_toListBytes] at h ⊢
    simp [h]
end
section
open Go.RowKit
structure aw where
  x:(List aS)
  b:ar
  f:(List (ae×ByteArray))
  n:(List (ae×(List ae)))
structure tD where
  a1:Bool
  u:ByteArray
  l1:ae
theorem GR:aP aO 114=true:=by kernel_rfl
theorem Pt:aP aO 172=true:=by kernel_rfl
theorem xP:aP aO 173=true:=by kernel_rfl
theorem PC:aP aO 184=true:=by kernel_rfl
theorem MY:aP aO 185=true:=by kernel_rfl
theorem Ji:aP aO 207=true:=by kernel_rfl
theorem M3:aP aO 208=true:=by kernel_rfl
theorem GY:aP aO 210=true:=by kernel_rfl
theorem GZ:aP aO 211=true:=by kernel_rfl
theorem Jj:aP aO 222=true:=by kernel_rfl
theorem PN:aP aO 242=true:=by kernel_rfl
theorem PO:aP aO 243=true:=by kernel_rfl
theorem Na:aP aO 244=true:=by kernel_rfl
theorem tS:Ip aO 220=some (30,9):=by kernel_rfl
theorem Qs:BW aO 223=some [(0,1),(1,3),(4,1),(5,1)]:=by kernel_rfl
theorem yc:BW aO 225=some [(0,1),(1,1),(2,2)]:=by kernel_rfl
theorem KL:mW aO 253=some 257:=by kernel_rfl
theorem QT:gj aO 223=some [.slice none 0 0,.int .i64 0,.slice none 0 0,.slice none 0 0,.map none,.map none]:=by kernel_rfl
theorem pg:gj aO 225=some [.bool false,.string cg,.int .i64 0,.string cg]:=by kernel_rfl
theorem NE:NF aO 9=some (.string cg):=by kernel_rfl
end
section
open Go.RowKit
theorem Ja:aP aO 113=true:=by kernel_rfl
theorem Pi:aP aO 141=true:=by kernel_rfl
theorem Pj:aP aO 142=true:=by kernel_rfl
theorem PD:aP aO 186=true:=by kernel_rfl
theorem G0:aP aO 212=true:=by kernel_rfl
theorem M4:aP aO 214=true:=by kernel_rfl
theorem M5:aP aO 215=true:=by kernel_rfl
theorem M6:aP aO 216=true:=by kernel_rfl
theorem M7:aP aO 217=true:=by kernel_rfl
theorem M9:aP aO 223=true:=by kernel_rfl
theorem PL:aP aO 224=true:=by kernel_rfl
theorem PP:aP aO 248=true:=by kernel_rfl
theorem Rp:aP aO 39=true:=by kernel_rfl
theorem Ke:BW aO 202=some [(0,2),(2,1),(3,1),(4,1),(5,1)]:=by kernel_rfl
theorem Fs:pQ aO 257=some (true,4):=by kernel_rfl
end
section
open Go.RowKit
theorem MU:aP aO 144=true:=by kernel_rfl
theorem Pk:aP aO 145=true:=by kernel_rfl
theorem Pm:aP aO 146=true:=by kernel_rfl
theorem PF:aP aO 188=true:=by kernel_rfl
theorem Jh:aP aO 189=true:=by kernel_rfl
theorem Bf:BW aO 25=some [(0,1),(1,1),(2,1)]:=by kernel_rfl
end
section
open Go.RowKit
variable {pos:String} {af:Array Edge} {g:Option (Nat×Bool)}
section
variable {α β:Type} {RI:aL α} {R:aL β} {P:Nat->Prop} {W:World} {M T:Nat->Prop} {n:Nat} {G:List (Nat×Value)} {D D0 Dr rs:List cZ} {F F0 F1:List cD} {a:Act} {w:World} {e:TypeId} {v1 v2:Value} {xs1:List α} {xs2:List β}
def rr (P:Nat->Prop) (F0:List cD) (R:aL β) (e:TypeId) (v2:Value) (xs2:List β):cD :=
  ⟨fun T w=>∃ cl,(cZ.own v2 e R.size cl).ok w/\(∀ k,(cZ.own v2 e R.size cl).dom k->¬ T k/\P k)/\aY R (dT T [.own v2 e R.size cl]) w cl xs2/\∀ f∈F0,f.p (dT T [.own v2 e R.size cl]) w,
   fun h k n=>by
    obtain⟨cl,h1,h2,h3,h4⟩:=h;have hn:∀ j,dT _ [.own v2 e R.size cl] j->dT _ [.own v2 e R.size cl] j∨_:=fun j hj=>by
      rcases hj with hj | hj
      · rcases n j hj with q | q
        · exact .inl (.inl q)
        · exact .inr q
      · exact .inl (.inr hj)
    exact⟨cl,cZ.keep h1 fun j hj=>k.block j (cZ.lt h1 j hj) (h2 j hj).1,fun j hj=>⟨fun hT=>by
      rcases n j hT with q | q
      · exact (h2 j hj).1 q
      · have:=cZ.lt h1 j hj; omega,(h2 j hj).2⟩,h3.keep (k.mono fun j hj=>.inl hj) hn,fun f hf=>f.keep (h4 f hf) (k.mono fun j hj=>.inl hj) hn⟩⟩
theorem St.zg {cl:bC} (I:St W M T n G D F a w) (hP:∀ k,M k∨W.heap.size<=k->P k) (F0:List cD) (hF:Es F F0) (i:Nat) (hi:D[i]? = some (.own v2 e R.size cl)) (j:Nat) (hj:F[j]? = some (ao R cl xs2)) :
    St W M T n G (D.eraseIdx i) (aQ R v2 xs2::rr P F0 R e v2 xs2::F) a w:=by
  have hm:=aK hi;have h2:(rr P F0 R e v2 xs2).p (dT T (D.eraseIdx i)) w:=by
    have hn:∀ k,dT (dT T (D.eraseIdx i)) [.own v2 e R.size cl] k->dT T D k:=fun k O=>(pn hi k).1 O;refine⟨cl,I.own _ hm,fun k O=>⟨fun hT=>?_,hP k (I.free _ hm k O).2⟩,(show aY R (dT T D) w cl xs2 from I.get j hj).keep (aj _ _) fun k O=>.inl (hn k O),fun f hf=>f.keep (I.facts f (hF.mem f hf)) (aj _ _) fun k O=>.inl (hn k O)⟩;rcases hT with hT | ⟨s,hs,hT⟩
    · exact (I.free _ hm k O).1 hT
    · exact I.notD i hi O (.inr ⟨s,hs,hT⟩)
  have h3:=I.zf i hi j hj;refine⟨h3.size,h3.defers,h3.slots,h3.base,h3.own,h3.free,h3.apart,fun f hf=>?_,h3.tlt⟩;rcases dC.1 hf with rfl | hf
  · exact h3.facts _ vX
  · rcases dC.1 hf with rfl | hf
    · exact h2
    · exact h3.facts f (wY _ hf)
def MG (F0:List cD) (f:cD):Prop:=∀ (T T':Nat->Prop) w,(∀ g∈F0,g.p T' w)->f.p T w->f.p T' w
theorem St.thawFr (I:St W M T n G D F a w) (i:Nat) (hi:F[i]? = some (rr P F0 R e v2 xs2)) (hP:∀ k,P k->M k∨W.heap.size<=k) (hF:∀ f∈F1,f∈F/\MG F0 f) :
    ∃ cl,St W M T n G (.own v2 e R.size cl::D) (ao R cl xs2::(F1++F0)) a w:=by
  obtain⟨cl,h1,h2,h3,h4⟩:=(show (rr P F0 R e v2 xs2).p _ _ from I.get i hi);have hn:∀ k,dT T (.own v2 e R.size cl::D) k->dT (dT T D) [.own v2 e R.size cl] k:=fun k O=>by
    rcases O with O | ⟨s,hs,O⟩
    · exact .inl (.inl O)
    · rcases dC.1 hs with rfl | hs
      · exact .inr ⟨_,vX,O⟩
      · exact .inl (.inr ⟨s,hs,O⟩)
  have h5:∀ f∈F0,f.p (dT T (.own v2 e R.size cl::D)) w:=fun f hf=>f.keep (h4 f hf) (aj _ _) fun k O=>.inl (hn k O);refine⟨cl,I.size,I.defers,I.slots,I.base,fun r hr=>?_,fun r hr k O=>?_,List.Pairwise.cons (fun s hs k O hk2=>(h2 k O).1 (.inr ⟨s,hs,hk2⟩)) I.apart,fun f hf=>?_,I.tlt⟩
  · rcases dC.1 hr with rfl | hr
    · exact h1
    · exact I.own r hr
  · rcases dC.1 hr with rfl | hr
    · exact⟨fun hT=>(h2 k O).1 (.inl hT),hP k (h2 k O).2⟩
    · exact I.free r hr k O
  · rcases dC.1 hf with rfl | hf
    · exact h3.keep (aj _ _) fun k O=>.inl (hn k O)
    · rcases de.1 hf with hf | hf
      · exact (hF f hf).2 _ _ _ h5 (I.facts f (hF f hf).1)
      · exact h5 f hf
theorem St.toP (I:St W M T n G (D0++Dr) F a w) (hP:∀ k,M k∨W.heap.size<=k->P k):∀ k,MD D0 k∨w.heap.size<=k->P k:=fun k O=>hP k (by
  rcases O with⟨r,hr,O⟩ | O
  · exact (I.free r (mD _ hr) k O).2
  · exact .inr (cI I.base.size O))
theorem cD.lent {i:Nat} {r:cZ} (f:cD) (hi:D[i]? = some r) (h:f.p (dT T D) w):f.p (dT (dT T (D.eraseIdx i)) [r]) w :=
  f.keep h (aj _ _) fun k O=>.inl ((pn hi k).1 O)
theorem cD.back {i:Nat} {r r':cZ} (f:cD) (hi:D[i]? = some r) (h:f.p (dT (dT T (D.eraseIdx i)) [r']) w):f.p (dT T (D.set i r')) w:=by
  refine f.keep h (aj _ _) fun k O=>.inl ?_;have hl:=(cm.1 hi).1;have:=(pn (T:=T) (D:=D.set i r') (i:=i) (r:=r') (by rw [Df hl]) k).2 O;rwa [List.eraseIdx_set_eq] at this
theorem cD.up (f:cD) (hi:Lf D rs) (h:f.p (dT T D) w):f.p (dT T rs) w:=f.keep h (aj _ _) fun k O=>.inl (hi.sub k O)
theorem EP {R:aL β} (C:∀ (T T':Nat->Prop) w c x,R.rel T w c x->R.rel T' w c x) {cl:bC} {xs:List β}:MG F0 (ao R cl xs):=by
  intro T T' w _ h;have h:aY R T w cl xs:=h;exact⟨h.1,fun k x hx=>by obtain⟨cs,h1,h2⟩:=h.2 k x hx; exact⟨cs,C _ _ _ _ _ h1,h2⟩⟩
end
section
variable {P:Program} {W:World} {M T E:Nat->Prop} {n:Nat} {G G':List (Nat×Value)} {D D' D0 Dr rs:List cZ} {F F':List cD} {a:Act} {w w':World} {K:Act->World->Prop}
theorem xX {d:Nat} {ty:TypeId} {x:Operand} {args:Array Operand} {tys:Array TypeId} {f:Nat} {vs cap:bC} {R:Value->World->Prop} (I:St W M T n G (D0++Dr) F a w) (hx:ev G x=some (.func (.func f) #[] cap.toArray)) (hf:aP P f=true) (hargs:evs G args.toList=some vs) (hn:Nat.blt d n=true) (hc:bc P (MD D0) f (vs++cap) w R)
    (k:∀ v w',R v w'->∀ a,Kt (MD D0) w w'->(∀ rs,gk w w' D0 rs->St W M T n ((d,v)::G) (rs++Dr) F a w')->K a w'):ru P ⟨some d,.call { callee:=.value x,args:=args,argTypes:=tys },ty,pos,af,g⟩ a w K :=
  we rfl I hx hf hargs hc fun v w' O hr=>k v w' hr _ O (fun rs h=>(I.swapD O h).put hn v)
end
end
section
open Go.RowKit
structure aN where
  S:aw
  B:ar
  m:(List (ae×Bool))
  r1:(List ae)
  E:Int
theorem Jc:aP aO 118=true:=by kernel_rfl
theorem Pu:aP aO 174=true:=by kernel_rfl
theorem Pv:aP aO 175=true:=by kernel_rfl
theorem PH:aP aO 213=true:=by kernel_rfl
theorem Kd:BW aO 180=some [(0,1),(1,3),(4,1),(5,1),(6,1)]:=by kernel_rfl
theorem Nx:pQ aO 173=some (false,1):=by kernel_rfl
theorem QI:pQ aO 43=some (false,1):=by kernel_rfl
theorem Lb:gj aO 180=some [.pointer none,.int .i64 0,.slice none 0 0,.slice none 0 0,.map none,.slice none 0 0,.int .i64 0]:=by kernel_rfl
end
section
open Go.RowKit
theorem Rl:aP aO 27=true:=by kernel_rfl
theorem NQ:aP aO 29=true:=by kernel_rfl
theorem NR:aP aO 30=true:=by kernel_rfl
theorem Lx:aP aO 36=true:=by kernel_rfl
theorem PS:aP aO 37=true:=by kernel_rfl
theorem Rr:aP aO 42=true:=by kernel_rfl
theorem NW:aP aO 87=true:=by kernel_rfl
theorem RS:aP aO 88=true:=by kernel_rfl
theorem RT:aP aO 89=true:=by kernel_rfl
theorem RU:aP aO 90=true:=by kernel_rfl
end
section
open Go.RowKit
structure b7 where
  y:Int
  z:Int
def HZ:aL b7 where
  size:=2
  rel:=fun _ _ cs x=>cs=[.int .i64 x.y,.int .u64 x.z]
  len:=by rintro _ _ _ _ rfl; rfl
  one:=by rintro _ _ _ _ rfl; exact (oc rfl (oc rfl on))
  keep:=fun h _ _=>h
structure ci where
  d:ae
  a:b7
def bH:aL ci where
  size:=4
  rel:=fun _ _ cs x=>cs=[.int .i64 x.d.k,.string x.d.t,.int .i64 x.a.y,.int .u64 x.a.z]
  len:=by rintro _ _ _ _ rfl; rfl
  one:=by rintro _ _ _ _ rfl; exact (oc rfl (oc rfl (oc rfl (oc rfl on))))
  keep:=fun h _ _=>h
structure ai where
  d:ae
  v:(List ci)
  u:ByteArray
  j:Int
def an:aL ai where
  size:=5
  rel:=fun T w cs x=>∃ v1,cs=[.int .i64 x.d.k,.string x.d.t,v1,.string x.u,.int .i64 x.j]/\aG bH T w v1 x.v
  len:=by rintro _ _ _ _ ⟨v1,rfl,hv1⟩; rfl
  one:=by rintro _ _ _ _ ⟨v1,rfl,hv1⟩; exact (oc rfl (oc rfl (oc hv1.one (oc rfl (oc rfl on)))))
  keep:=by rintro _ _ _ _ _ _ ⟨v1,rfl,hv1⟩ k n; exact⟨v1,rfl,hv1.keep k n⟩
theorem GT:aP aO 127=true:=by kernel_rfl
theorem MT:aP aO 134=true:=by kernel_rfl
theorem Pd:aP aO 135=true:=by kernel_rfl
theorem Pe:aP aO 136=true:=by kernel_rfl
theorem Pf:aP aO 137=true:=by kernel_rfl
theorem Dp:aP aO 22=true:=by kernel_rfl
theorem Jl:aP aO 54=true:=by kernel_rfl
theorem PV:aP aO 55=true:=by kernel_rfl
theorem PW:aP aO 56=true:=by kernel_rfl
theorem Ry:aP aO 57=true:=by kernel_rfl
theorem Lz:aP aO 58=true:=by kernel_rfl
theorem LA:aP aO 59=true:=by kernel_rfl
theorem RG:aP aO 74=true:=by kernel_rfl
theorem RH:aP aO 75=true:=by kernel_rfl
theorem P2:aP aO 82=true:=by kernel_rfl
theorem qT:B7 aO 48=some (51,5,72):=by kernel_rfl
theorem Gc:B7 aO 49=some (128,4,40):=by kernel_rfl
theorem zZ:B7 aO 61=some (5,1,1):=by kernel_rfl
theorem zJ:BW aO 105=some [(0,1),(1,1)]:=by kernel_rfl
theorem Kb:BW aO 128=some [(0,2),(2,2)]:=by kernel_rfl
theorem Oh:BW aO 51=some [(0,2),(2,1),(3,1),(4,1)]:=by kernel_rfl
theorem yt:mW aO 48=some 51:=by kernel_rfl
theorem Gv:mW aO 49=some 128:=by kernel_rfl
theorem wT:pQ aO 103=some (false,1):=by kernel_rfl
theorem BH:pQ aO 105=some (true,2):=by kernel_rfl
theorem BI:pQ aO 128=some (true,4):=by kernel_rfl
theorem uK:pQ aO 51=some (true,5):=by kernel_rfl
theorem s8:gj aO 105=some [.int .i64 0,.int .u64 0]:=by kernel_rfl
theorem u4:gj aO 128=some [.int .i64 0,.string cg,.int .i64 0,.int .u64 0]:=by kernel_rfl
theorem OO:gj aO 5=some [.int .u8 0]:=by kernel_rfl
theorem rf:gj aO 51=some [.int .i64 0,.string cg,.slice none 0 0,.string cg,.int .i64 0]:=by kernel_rfl
end
section
open Go.RowKit
variable {A B:Prop} {S:Type} {k:Nat} {p:Int} {r:cZ} {v0 v1 v10 v3 v4 v5 v6 v7 v8 v9:Value} {w':World}
variable {pos:String} {af:Array Edge} {g:Option (Nat×Bool)}
class tz (P:Program) (t:TypeId) (b:outParam Bool) (z:outParam Nat):Prop where
 h:pQ P t=some (b,z)
class mN (P:Program) (s:TypeId) (f:Nat) (k:outParam Nat):Prop where
 h:Ie P s f=some k
class FO (P:Program) (t:TypeId) (e:outParam TypeId):Prop where
 h:mW P t=some e
class MK (P:Program) (t:TypeId) (u:outParam TypeDesc):Prop where
 h:P.underlying t=some u
theorem fD {D:List cD} {r:cD} (h:∃ i:Nat,D[i]? = some r:=by first | exact⟨0,rfl⟩ | exact⟨1,rfl⟩ | exact⟨2,rfl⟩ | exact⟨3,rfl⟩ | exact⟨4,rfl⟩ | exact⟨5,rfl⟩ | exact⟨6,rfl⟩ | exact⟨7,rfl⟩ | exact⟨8,rfl⟩ | exact⟨9,rfl⟩ | exact⟨10,rfl⟩ | exact⟨11,rfl⟩ | exact⟨12,rfl⟩ | exact⟨13,rfl⟩ | exact⟨14,rfl⟩ | exact⟨15,rfl⟩ | exact⟨16,rfl⟩ | exact⟨17,rfl⟩ | exact⟨18,rfl⟩ | exact⟨19,rfl⟩ | exact⟨20,rfl⟩ | exact⟨21,rfl⟩ | exact⟨22,rfl⟩ | exact⟨23,rfl⟩ | exact⟨24,rfl⟩ | exact⟨25,rfl⟩ | exact⟨26,rfl⟩ | exact⟨27,rfl⟩ | exact⟨28,rfl⟩ | exact⟨29,rfl⟩):∃ i:Nat,D[i]? = some r:=h
theorem fR {D:List cZ} (h:∃ i:Nat,D[i]? = some r:=by first | exact⟨0,rfl⟩ | exact⟨1,rfl⟩ | exact⟨2,rfl⟩ | exact⟨3,rfl⟩ | exact⟨4,rfl⟩ | exact⟨5,rfl⟩ | exact⟨6,rfl⟩ | exact⟨7,rfl⟩ | exact⟨8,rfl⟩ | exact⟨9,rfl⟩ | exact⟨10,rfl⟩ | exact⟨11,rfl⟩ | exact⟨12,rfl⟩ | exact⟨13,rfl⟩ | exact⟨14,rfl⟩ | exact⟨15,rfl⟩ | exact⟨16,rfl⟩ | exact⟨17,rfl⟩ | exact⟨18,rfl⟩ | exact⟨19,rfl⟩ | exact⟨20,rfl⟩ | exact⟨21,rfl⟩ | exact⟨22,rfl⟩ | exact⟨23,rfl⟩ | exact⟨24,rfl⟩ | exact⟨25,rfl⟩ | exact⟨26,rfl⟩ | exact⟨27,rfl⟩ | exact⟨28,rfl⟩ | exact⟨29,rfl⟩):∃ i:Nat,D[i]? = some r:=h
theorem xI (i:Nat) {D:List cZ} {r:Option cZ} (h:D[i]? = r):D[i]? = r:=h
theorem fI {D:List cZ} {i:Nat} (h:D[i]? = some r:=by first | (refine xI 0 ?_; exact rfl) | (refine xI 1 ?_; exact rfl) | (refine xI 2 ?_; exact rfl) | (refine xI 3 ?_; exact rfl) | (refine xI 4 ?_; exact rfl) | (refine xI 5 ?_; exact rfl) | (refine xI 6 ?_; exact rfl) | (refine xI 7 ?_; exact rfl) | (refine xI 8 ?_; exact rfl) | (refine xI 9 ?_; exact rfl) | (refine xI 10 ?_; exact rfl) | (refine xI 11 ?_; exact rfl) | (refine xI 12 ?_; exact rfl) | (refine xI 13 ?_; exact rfl) | (refine xI 14 ?_; exact rfl) | (refine xI 15 ?_; exact rfl) | (refine xI 16 ?_; exact rfl) | (refine xI 17 ?_; exact rfl) | (refine xI 18 ?_; exact rfl) | (refine xI 19 ?_; exact rfl) | (refine xI 20 ?_; exact rfl) | (refine xI 21 ?_; exact rfl) | (refine xI 22 ?_; exact rfl) | (refine xI 23 ?_; exact rfl) | (refine xI 24 ?_; exact rfl) | (refine xI 25 ?_; exact rfl) | (refine xI 26 ?_; exact rfl) | (refine xI 27 ?_; exact rfl) | (refine xI 28 ?_; exact rfl) | (refine xI 29 ?_; exact rfl)):D[i]? = some r:=h
theorem kn {c b:Bool} (h:c=b:=by first | assumption | exact rfl | exact nt (by assumption) | exact nf (by assumption)):c=b:=h
def Tk (Z o:Nat) (cs us:bC):Prop:=(cs.drop o).take Z=us/\us.length=Z
def Cl (Z:Nat) (v:Value) (us:bC):Prop:=v.cells.toList=us/\us.length=Z
theorem SN {o:Nat} {cs:bC} (h:(cs.drop o).take 1=[v0]):Tk 1 o cs [v0]:=⟨h,rfl⟩
theorem Sn {v:Value} (h:v.cells.toList=[v0]):Cl 1 v [v0]:=⟨h,rfl⟩
theorem SO {o:Nat} {cs:bC} (h:(cs.drop o).take 2=[v0,v1]):Tk 2 o cs [v0,v1]:=⟨h,rfl⟩
theorem B4 {v:Value} (h:v.cells.toList=[v0,v1]):Cl 2 v [v0,v1]:=⟨h,rfl⟩
theorem SP {o:Nat} {cs:bC} {v2:Value} (h:(cs.drop o).take 3=[v0,v1,v2]):Tk 3 o cs [v0,v1,v2]:=⟨h,rfl⟩
theorem dA {v v2:Value} (h:v.cells.toList=[v0,v1,v2]):Cl 3 v [v0,v1,v2]:=⟨h,rfl⟩
theorem SR {o:Nat} {cs:bC} {v2:Value} (h:(cs.drop o).take 4=[v0,v1,v2,v3]):Tk 4 o cs [v0,v1,v2,v3]:=⟨h,rfl⟩
theorem sO {v v2:Value} (h:v.cells.toList=[v0,v1,v2,v3]):Cl 4 v [v0,v1,v2,v3]:=⟨h,rfl⟩
theorem SS {o:Nat} {cs:bC} {v2:Value} (h:(cs.drop o).take 5=[v0,v1,v2,v3,v4]):Tk 5 o cs [v0,v1,v2,v3,v4]:=⟨h,rfl⟩
theorem uf {v v2:Value} (h:v.cells.toList=[v0,v1,v2,v3,v4]):Cl 5 v [v0,v1,v2,v3,v4]:=⟨h,rfl⟩
theorem ST {o:Nat} {cs:bC} {v2:Value} (h:(cs.drop o).take 6=[v0,v1,v2,v3,v4,v5]):Tk 6 o cs [v0,v1,v2,v3,v4,v5]:=⟨h,rfl⟩
theorem zD {v v2:Value} (h:v.cells.toList=[v0,v1,v2,v3,v4,v5]):Cl 6 v [v0,v1,v2,v3,v4,v5]:=⟨h,rfl⟩
theorem SU {o:Nat} {cs:bC} {v2:Value} (h:(cs.drop o).take 7=[v0,v1,v2,v3,v4,v5,v6]):Tk 7 o cs [v0,v1,v2,v3,v4,v5,v6]:=⟨h,rfl⟩
theorem rK {v v2:Value} (h:v.cells.toList=[v0,v1,v2,v3,v4,v5,v6]):Cl 7 v [v0,v1,v2,v3,v4,v5,v6]:=⟨h,rfl⟩
theorem SV {o:Nat} {cs:bC} {v2:Value} (h:(cs.drop o).take 8=[v0,v1,v2,v3,v4,v5,v6,v7]):Tk 8 o cs [v0,v1,v2,v3,v4,v5,v6,v7]:=⟨h,rfl⟩
theorem AL {v v2:Value} (h:v.cells.toList=[v0,v1,v2,v3,v4,v5,v6,v7]):Cl 8 v [v0,v1,v2,v3,v4,v5,v6,v7]:=⟨h,rfl⟩
theorem SW {o:Nat} {cs:bC} {v2:Value} (h:(cs.drop o).take 9=[v0,v1,v2,v3,v4,v5,v6,v7,v8]):Tk 9 o cs [v0,v1,v2,v3,v4,v5,v6,v7,v8]:=⟨h,rfl⟩
theorem IR {v v2:Value} (h:v.cells.toList=[v0,v1,v2,v3,v4,v5,v6,v7,v8]):Cl 9 v [v0,v1,v2,v3,v4,v5,v6,v7,v8]:=⟨h,rfl⟩
theorem Sa {o:Nat} {cs:bC} {v2:Value} (h:(cs.drop o).take 10=[v0,v1,v2,v3,v4,v5,v6,v7,v8,v9]):Tk 10 o cs [v0,v1,v2,v3,v4,v5,v6,v7,v8,v9]:=⟨h,rfl⟩
theorem rW {v v2:Value} (h:v.cells.toList=[v0,v1,v2,v3,v4,v5,v6,v7,v8,v9]):Cl 10 v [v0,v1,v2,v3,v4,v5,v6,v7,v8,v9]:=⟨h,rfl⟩
theorem Sb {o:Nat} {cs:bC} {v2:Value} (h:(cs.drop o).take 11=[v0,v1,v2,v3,v4,v5,v6,v7,v8,v9,v10]):Tk 11 o cs [v0,v1,v2,v3,v4,v5,v6,v7,v8,v9,v10]:=⟨h,rfl⟩
theorem RW {v v2:Value} (h:v.cells.toList=[v0,v1,v2,v3,v4,v5,v6,v7,v8,v9,v10]):Cl 11 v [v0,v1,v2,v3,v4,v5,v6,v7,v8,v9,v10]:=⟨h,rfl⟩
theorem Sc {o:Nat} {cs:bC} {v2 v11:Value} (h:(cs.drop o).take 12=[v0,v1,v2,v3,v4,v5,v6,v7,v8,v9,v10,v11]):Tk 12 o cs [v0,v1,v2,v3,v4,v5,v6,v7,v8,v9,v10,v11]:=⟨h,rfl⟩
theorem ue {v v2 v11:Value} (h:v.cells.toList=[v0,v1,v2,v3,v4,v5,v6,v7,v8,v9,v10,v11]):Cl 12 v [v0,v1,v2,v3,v4,v5,v6,v7,v8,v9,v10,v11]:=⟨h,rfl⟩
theorem Sy {Z o:Nat} {cs us:bC} (h:Tk Z o cs us:=by first | ((with_reducible apply SN); exact rfl) | ((with_reducible apply SO); exact rfl) | ((with_reducible apply SP); exact rfl) | ((with_reducible apply SR); exact rfl) | ((with_reducible apply SS); exact rfl) | ((with_reducible apply ST); exact rfl) | ((with_reducible apply SU); exact rfl) | ((with_reducible apply SV); exact rfl) | ((with_reducible apply SW); exact rfl) | ((with_reducible apply Sa); exact rfl) | ((with_reducible apply Sb); exact rfl) | ((with_reducible apply Sc); exact rfl)):Tk Z o cs us:=h
theorem R3 {W:World} {M T:Nat->Prop} {n:Nat} {G:List (Nat×Value)} {D:List cZ} {F:List cD} {v:Value} {a:Act} {w:World} {e:TypeId} {sz:Nat} {cl:bC} (I:St W M T n G D F a w) (h:∃ i:Nat,D[i]? = some (.own v e sz cl)):v.oneCell'=true:=gh (I.own _ (aK h.choose_spec)).1
theorem R4 {W:World} {M T:Nat->Prop} {n:Nat} {G:List (Nat×Value)} {D:List cZ} {F:List cD} {v:Value} {a:Act} {w:World} {α:Type} {R:aL α} {xs:List α} (I:St W M T n G D F a w) (h:∃ i:Nat,F[i]? = some (aQ R v xs)):v.oneCell'=true:=aG.one (I.get h.choose h.choose_spec:aG R _ _ _ _)
theorem Ql {v:Value} (h:v.oneCell'=true:=by first | exact rfl | exact R3 I fR | exact R4 I fD):v.oneCell'=true:=h
theorem NY {Z:Nat} {v:Value} {us:bC} (h:Cl Z v us:=by first | ((with_reducible apply Sn); exact rfl) | ((with_reducible apply B4); exact rfl) | ((with_reducible apply dA); exact rfl) | ((with_reducible apply sO); exact rfl) | ((with_reducible apply uf); exact rfl) | ((with_reducible apply zD); exact rfl) | ((with_reducible apply rK); exact rfl) | ((with_reducible apply AL); exact rfl) | ((with_reducible apply IR); exact rfl) | ((with_reducible apply rW); exact rfl) | ((with_reducible apply RW); exact rfl) | ((with_reducible apply ue); exact rfl) | ((with_reducible apply Sn); exact lh Ql)):Cl Z v us:=h
theorem Qk {us:bC} (h:∀ u∈us,u.oneCell'=true:=by repeat (first | exact on | refine oc Ql ?_)):∀ u∈us,u.oneCell'=true:=h
def SQ (P:Program) (z:Code) (Q:Exit->Act->World->Prop):Exit->Act->World->Prop:=Exit.then (z.wp P Q) Q
section
variable {P:Program} {W:World} {M T:Nat->Prop} {n:Nat} {F:List cD}
def Yv (P:Program) (W:World) (M T:Nat->Prop) (n:Nat) (G:List (Nat×Value)) (D:List cZ) (F:List cD) (E:Nat->Prop) (op:Op) (v:Value):Prop :=
 ∀ a w d ty pos af g,St W M T n G D F a w->Ye P ⟨d,op,ty,pos,af,g⟩ a E w v
section
variable {G:List (Nat×Value)} {D:List cZ} {E:Nat->Prop} {x y z:Operand} {v:Value} {t t' s:TypeId}
theorem Yv.mv (hx:ev G x=some v):Yv P W M T n G D F E (.move x) v:=fun _ _ _ _ _ _ _ I=>K5 I hx
theorem Yv.as (hx:ev G x=some v):Yv P W M T n G D F E (.assign x) v:=fun _ _ _ _ _ _ _ I=>FA I hx
theorem Yv.bi {op:BinOp} {k:IntKind} {q:Int} (hx:ev G x=some (.int k p)) (hy:ev G y=some (.int k q)) (hv:N3 op k p q=some v):Yv P W M T n G D F E (.binOp op t x y t') v:=fun _ _ _ _ _ _ _ I=>FD I hx hy hv
theorem Yv.bs {op:BinOp} {p q:ByteArray} (hx:ev G x=some (.string p)) (hy:ev G y=some (.string q)) (hv:OA op p q=some v):Yv P W M T n G D F E (.binOp op t x y t') v:=fun _ _ _ _ _ _ _ I=>QP I hx hy hv
theorem Yv.no {b:Bool} (hx:ev G x=some (.bool b)):Yv P W M T n G D F E (.unOp .not t x) (.bool !b):=fun _ _ _ _ _ _ _ I=>QN I hx
theorem Yv.ng {k:IntKind} (hx:ev G x=some (.int k p)):Yv P W M T n G D F E (.unOp .neg t x) (.int k (k.wrap (0-p))):=fun _ _ _ _ _ _ _ I=>QL I hx
theorem Yv.ex {i:Nat} {vs:Array Value} (hx:ev G x=some (.tuple vs)) (hv:vs[i]? = some v):Yv P W M T n G D F E (.extract x i) v:=fun _ _ _ _ _ _ _ I=>Sf I hx hv
theorem Yv.nl {p:Addr} (hx:ev G x=some (.pointer (some p))):Yv P W M T n G D F E (.nilCheck x) (.pointer (some p)):=fun _ _ _ _ _ _ _ I=>QM I hx
theorem Yv.fl {f b o:Nat} [c:mN P s f k] (hx:ev G x=some (.pointer (some ⟨b,o,none⟩))):Yv P W M T n G D F E (.fieldAddr s x f) (.pointer (some ⟨b,o+k,none⟩)):=fun _ _ _ _ _ _ _ I=>FC I hx c.h
theorem Yv.pt {b:Bool} (hz:ev G z=some (.bool b)) (hb:b=true) (hx:ev G x=some v):Yv P W M T n G D F E (.pick z x y) v:=fun _ _ _ _ _ _ _ I=>Mx I hz hb hx
theorem Yv.pf {b:Bool} (hz:ev G z=some (.bool b)) (hb:b=false) (hy:ev G y=some v):Yv P W M T n G D F E (.pick z x y) v:=fun _ _ _ _ _ _ _ I=>Mw I hz hb hy
theorem Yv.cv {k k' ks:IntKind} [hs:MK P s (.int ks)] [ht:MK P t (.int k')] (hx:ev G x=some (.int k p)):Yv P W M T n G D F E (.convert s t x) (.int k' (k'.wrap p)):=fun _ _ _ _ _ _ _ I=>OJ I hx hs.h ht.h
theorem Yv.ls {p:ByteArray} [ht:MK P t .string] (hx:ev G x=some (.string p)):Yv P W M T n G D F E (.call { callee:=.builtin .len,args:=#[x],argTypes:=#[t] }) (.int .i64 p.size):=fun _ _ _ _ _ _ _ I=>OK I ht.h hx
theorem Yv.ll {e:TypeId} {α:Type} {R:aL α} {xs:List α} [ht:FO P t e] (hx:ev G x=some v) (hF:∃ i:Nat,F[i]? = some (aQ R v xs)):Yv P W M T n G D F E (.call { callee:=.builtin .len,args:=#[x],argTypes:=#[t] }) (.int .i64 xs.length):=fun _ _ _ _ _ _ _ I=>ND I ht.h hx hF.choose hF.choose_spec
theorem Yv.lo {e e':TypeId} {cl:bC} {α:Type} {R:aL α} {xs:List α} [ht:FO P t e] (hx:ev G x=some v) (hD:∃ j:Nat,D[j]? = some (.own v e' R.size cl)) (hF:∃ i:Nat,F[i]? = some (ao R cl xs)):Yv P W M T n G D F E (.call { callee:=.builtin .len,args:=#[x],argTypes:=#[t] }) (.int .i64 xs.length):=fun _ _ _ _ _ _ _ I=>K1 I ht.h hx hD.choose hD.choose_spec hF.choose hF.choose_spec
theorem Yv.la {Z b o:Nat} {cs us:bC} {bt:TypeId} [c:tz P t true Z] (hx:ev G x=some (.pointer (some ⟨b,o,none⟩))) (hD:∃ i:Nat,D[i]? = some (.box b cs bt)) (hE:¬ E b) (hu:Tk Z o cs us):Yv P W M T n G D F E (.load t x) (.agg us.toArray):=fun _ _ _ _ _ _ _ I=>eB I hx c.h hD.choose hD.choose_spec hE hu.1 hu.2 (fun h=>by cases h)
theorem Yv.l1 {b o:Nat} {cs:bC} {bt:TypeId} [c:tz P t false 1] (hx:ev G x=some (.pointer (some ⟨b,o,none⟩))) (hD:∃ i:Nat,D[i]? = some (.box b cs bt)) (hE:¬ E b) (hu:(cs.drop o).take 1=[v]):Yv P W M T n G D F E (.load t x) v:=fun _ _ _ _ _ _ _ I=>eB (us:=[v]) I hx c.h hD.choose hD.choose_spec hE hu rfl (fun _=>rfl)
theorem Yv.ca {Z b o p:Nat} {cs us:bC} [c:tz P t true Z] (hx:ev G x=some (.pointer (some ⟨b,p,none⟩))) (hF:∃ i:Nat,F[i]? = some (eH b o cs)) (hp:o+k=p) (hE:∀ a w,St W M T n G D F a w->∀ j,E j->dT T D j∨w.heap.size<=j) (hu:Tk Z k cs us):Yv P W M T n G D F E (.load t x) (.agg us.toArray):=fun a w _ _ _ _ _ I=>by
 subst hp;exact wz I c.h hF.choose hF.choose_spec hx (hE a w I) hu.1 hu.2 (fun h=>by cases h)
theorem Yv.c1 {b o p:Nat} {cs:bC} [c:tz P t false 1] (hx:ev G x=some (.pointer (some ⟨b,p,none⟩))) (hF:∃ i:Nat,F[i]? = some (eH b o cs)) (hp:o+k=p) (hE:∀ a w,St W M T n G D F a w->∀ j,E j->dT T D j∨w.heap.size<=j) (hu:(cs.drop k).take 1=[v]):Yv P W M T n G D F E (.load t x) v:=fun a w _ _ _ _ _ I=>by
 subst hp;exact wz (us:=[v]) I c.h hF.choose hF.choose_spec hx (hE a w I) hu rfl (fun _=>rfl)
theorem Sp {ops:Array Oper} {mods:List (Nat×Tn)} {ls:Array Bool} {i:Nat} (h:rem ops mods ls i=[]:=by first | exact rfl | kernel_rfl):¬ Eo (rem ops mods ls i) k:=by rw [h]; exact bU
theorem Sq {ops:Array Oper} {mods:List (Nat×Tn)} {ls:Array Bool} {i:Nat} (h:rem ops mods ls i=[]:=by first | exact rfl | kernel_rfl):∀ a w,St W M T n G D F a w->∀ j,Eo (rem ops mods ls i) j->dT T D j∨w.heap.size<=j:=by rw [h]; exact fun _ _ _=>DA
theorem Yv.e {d:Option Nat} {ty:TypeId} {op:Op} {a:Act} {w:World} (h:Yv P W M T n G D F E op v) (I:St W M T n G D F a w):Ye P ⟨d,op,ty,pos,af,g⟩ a E w v:=h a w d ty pos af g I
theorem yA {op:Op} (h:Yv P W M T n G D F E op v:=by
 first
  | ((with_reducible apply Yv.mv); exact rfl)
  | ((with_reducible apply Yv.bi); exact rfl; exact rfl; exact rfl)
  | ((with_reducible apply Yv.as); exact rfl)
  | ((with_reducible apply Yv.fl); exact rfl)
  | ((with_reducible apply Yv.l1); exact rfl; exact fR; (first | exact id | exact Sp); exact rfl)
  | ((with_reducible apply Yv.la); exact rfl; exact fR; (first | exact id | exact Sp); exact Sy)
  | ((with_reducible apply Yv.c1); exact rfl; exact fD; (first | exact pd _ | exact rfl | exact (xA _ _ _).symm); (first | exact (fun _ _ _ _ h=>h.elim) | exact Sq); exact rfl)
  | ((with_reducible apply Yv.ca); exact rfl; exact fD; (first | exact pd _ | exact rfl | exact (xA _ _ _).symm); (first | exact (fun _ _ _ _ h=>h.elim) | exact Sq); exact Sy)
  | ((with_reducible apply Yv.pt); exact rfl; exact kn; exact rfl)
  | ((with_reducible apply Yv.pf); exact rfl; exact kn; exact rfl)
  | ((with_reducible apply Yv.ex); exact rfl; exact rfl)
  | ((with_reducible apply Yv.no); exact rfl)
  | ((with_reducible apply Yv.nl); exact rfl)
  | ((with_reducible apply Yv.bs); exact rfl; exact rfl; exact rfl)
  | ((with_reducible apply Yv.ll); exact rfl; exact fD)
  | ((with_reducible apply Yv.lo); exact rfl; exact fR; exact fD)
  | ((with_reducible apply Yv.ls); exact rfl)
  | ((with_reducible apply Yv.cv); exact rfl)
  | ((with_reducible apply Yv.ng); exact rfl)):Yv P W M T n G D F E op v:=h
end
def Rn (W:World) (M T:Nat->Prop) (n:Nat) (F:List cD) (b:Bool) (G:List (Nat×Value)) (D:List cZ) (X:Act->World->Prop) (G':List (Nat×Value)) (D':List cZ) (X':Act->World->Prop):Prop :=
 ∀ w,(∀ a w',(b=true->w'=w)->St W M T n G' D' F a w'->X' a w')->∀ a,St W M T n G D F a w->X a w
section
variable {b:Bool} {G G':List (Nat×Value)} {D D':List cZ} {X X' K:Act->World->Prop} {Q:Exit->Act->World->Prop} {ops:Array Oper} {l:List Oper} {op:Op} {v:Value} {d j t:Nat} {ty tt:TypeId} {pos:String} {af:Array Edge} {want c:Bool} {x y z:Code} {id:Nat} {u:Operand}
theorem Rn.fin:Rn W M T n F b G D X G D X:=fun w k a I=>k a w (fun _=>rfl) I
theorem Rn.yv (h:Yv P W M T n G D F No op v) (hn:Nat.blt d n=true) (k:Rn W M T n F b ((d,v)::G) D (wpList P ops Q l) G' D' X'):Rn W M T n F b G D (wpList P ops Q (⟨some d,op,ty,pos,af,none⟩::l)) G' D' X' :=
 fun w K a I=>wy I (h a w _ _ _ _ _ I) rfl rfl hn fun a I=>k w K a I
def OU (u:Value) (want:Bool) (A B:Prop):Prop:=(∃ c,u = .bool c/\c=want/\A)∨(((∃ c,u = .bool c/\c = !want)∨u=undef)/\B)
theorem RZ (h:c=want) (k:A):OU (.bool c) want A B:=.inl ⟨c,rfl,h,k⟩
theorem RY (h:c = !want) (k:B):OU (.bool c) want A B:=.inr ⟨.inl ⟨c,rfl,h⟩,k⟩
theorem R0 (k:B):OU undef want A B:=.inr ⟨.inr rfl,k⟩
theorem GC {o:Oper} {g:Option (Nat×Bool)} {a:Act} {w:World} {rest:List Oper} (h:wpList P ops Q ({ o with guard:=none } :: rest) a w) (hw:Region.wanted { o with guard:=g } (yielded ops a.tmps)=true):wpList P ops Q ({ o with guard:=g } :: rest) a w:=by
 unfold wpList at h ⊢;rw [if_pos hw];rw [if_pos (by simp [Region.wanted])] at h;exact h
theorem Rn.gd {uv:Value} (hj:(ops[j]?).bind (·.dst)=some t) (ht:lk G t=some uv) (hn:Nat.blt d n=true)
  (k:OU uv want (Rn W M T n F b G D (wpList P ops Q (⟨some d,op,ty,pos,af,none⟩::l)) G' D' X') (Rn W M T n F b ((d,undef)::G) D (wpList P ops Q l) G' D' X')):Rn W M T n F b G D (wpList P ops Q (⟨some d,op,ty,pos,af,some (j,want)⟩::l)) G' D' X':=by
 intro w K a I;rcases k with⟨c,h1,h2,k⟩|⟨h1 | h1,k⟩
 ·subst h1;exact GC (o:=⟨some d,op,ty,pos,af,none⟩) (k w K a I) (by rw [rV I rfl hj ht,h2]; simp)
 ·obtain⟨c,h1,h2⟩:=h1;subst h1;exact wn I rfl hj ht h2 rfl hn fun a I=>k w K a I
 ·subst h1;exact SX I rfl hj ht rfl hn fun a I=>k w K a I
theorem Rn.st {ag:Bool} {Z bb o:Nat} {cs us:bC} {bt:TypeId} {xx yy:Operand} [ct:tz P tt ag Z] {i:Nat} (hx:ev G xx=some (.pointer (some ⟨bb,o,none⟩))) (hi:D[i]? = some (.box bb cs bt)) (hy:ev G yy=some v)
  (h1:∀ a w,St W M T n G D F a w->Cl Z v us) (h2:∀ a w,St W M T n G D F a w->∀ u∈us,u.oneCell'=true) (hl:Nat.ble (o+Z) cs.length=true) (k:Rn W M T n F false G (D.set i (.box bb (ov cs o us) bt)) (wpList P ops Q l) G' D' X'):Rn W M T n F false G D (wpList P ops Q (⟨none,.store tt xx yy,ty,pos,af,none⟩::l)) G' D' X' :=
 fun w K a I=>wl rfl (ul I hx hy (h1 a w I).1 ct.h i hi (h1 a w I).2 hl (h2 a w I) fun w O I=>k w (fun a w' _ I=>K a w' (fun h=>by cases h) I) _ I)
theorem ay {a:Act} {w:World} (h:x.wp P (SQ P z Q) a w):(Code.seq x z).wp P Q a w:=wp_seq h
theorem Rn.rq (hg:(l.all fun o=>o.guard.isNone)=true) (k:Rn W M T n F b G D (wpList P l.toArray (SQ P z Q) l) G' D' X'):Rn W M T n F b G D (Code.wp P (Code.seq (Code.region id l.toArray false) z) Q) G' D' X':=fun w K a I=>wp_seq (wp_region_lit (k w K a I))
theorem dN {l:List Oper} {a:Act} {w:World} (h:wpList P l.toArray (SQ P z Q) l a w):(Code.seq (Code.region id l.toArray false) z).wp P Q a w:=wp_seq (wp_region_lit h)
theorem Rn.rl (k:Rn W M T n F b G D (wpList P l.toArray Q l) G' D' X'):Rn W M T n F b G D (Code.wp P (Code.region id l.toArray false) Q) G' D' X':=fun w K a I=>wp_region_lit (k w K a I)
theorem Rn.rz (k:Rn W M T n F b G D (Q .normal) G' D' X'):Rn W M T n F b G D (wpList P ops Q []) G' D' X':=fun w K a I=>wpList_nil (k w K a I)
theorem Rn.sq (k:Rn W M T n F b G D (z.wp P Q) G' D' X'):Rn W M T n F b G D (SQ P z Q .normal) G' D' X':=k
theorem Rn.th (k:Rn W M T n F b G D (K) G' D' X'):Rn W M T n F b G D (Exit.then K Q .normal) G' D' X':=k
theorem Rn.ib (k:Rn W M T n F b G D (Q .normal) G' D' X'):Rn W M T n F b G D (Exit.inBlock id Q .normal) G' D' X':=k
theorem Rn.sk (k:Rn W M T n F b G D (Q .normal) G' D' X'):Rn W M T n F b G D (Code.wp P .skip Q) G' D' X':=fun w K a I=>wp_skip (k w K a I)
theorem Rn.bl (k:Rn W M T n F b G D (x.wp P (Exit.inBlock id Q)) G' D' X'):Rn W M T n F b G D (Code.wp P (.block id x) Q) G' D' X':=fun w K a I=>wp_block (k w K a I)
theorem Rn.ct (hu:ev G u=some (.bool c)) (hc:c=true) (k:Rn W M T n F b G D (x.wp P Q) G' D' X'):Rn W M T n F b G D (Code.wp P (.cond u x y) Q) G' D' X':=fun w K a I=>Sm I hu hc (k w K a I)
theorem Rn.cf (hu:ev G u=some (.bool c)) (hc:c=false) (k:Rn W M T n F b G D (y.wp P Q) G' D' X'):Rn W M T n F b G D (Code.wp P (.cond u x y) Q) G' D' X':=fun w K a I=>Rb I hu hc (k w K a I)
theorem Rn.xt (k:Rn W M T n F b G D (Q (.exit j)) G' D' X'):Rn W M T n F b G D (Code.wp P (.exit j) Q) G' D' X':=fun w K a I=>wp_exit (k w K a I)
theorem Rn.rt (k:Rn W M T n F b G D (Q .ret) G' D' X'):Rn W M T n F b G D (Code.wp P .ret Q) G' D' X':=fun w K a I=>wp_ret (k w K a I)
theorem Rn.sqr (k:Rn W M T n F b G D (Q .ret) G' D' X'):Rn W M T n F b G D (SQ P z Q .ret) G' D' X':=k
theorem Rn.sqe (k:Rn W M T n F b G D (Q (.exit j)) G' D' X'):Rn W M T n F b G D (SQ P z Q (.exit j)) G' D' X':=k
theorem Rn.thr (k:Rn W M T n F b G D (Q .ret) G' D' X'):Rn W M T n F b G D (Exit.then K Q .ret) G' D' X':=k
theorem Rn.the (k:Rn W M T n F b G D (Q (.exit j)) G' D' X'):Rn W M T n F b G D (Exit.then K Q (.exit j)) G' D' X':=k
theorem Rn.ibr (k:Rn W M T n F b G D (Q .ret) G' D' X'):Rn W M T n F b G D (Exit.inBlock id Q .ret) G' D' X':=k
theorem Rn.ibt (h:Nat.beq j id=true) (k:Rn W M T n F b G D (Q .normal) G' D' X'):Rn W M T n F b G D (Exit.inBlock id Q (.exit j)) G' D' X':=fun w K a I=>by
 have h2:=k w K a I;simp only [Exit.inBlock];rw [if_pos (vU h)]; exact h2
theorem Rn.ibf (h:Nat.beq j id=false) (k:Rn W M T n F b G D (Q (.exit j)) G' D' X'):Rn W M T n F b G D (Exit.inBlock id Q (.exit j)) G' D' X':=fun w K a I=>by
 have h2:=k w K a I;simp only [Exit.inBlock];rw [if_neg (fun e=>by rw [e] at h; simp at h)]; exact h2
theorem SC (h:Rn W M T n F b G D X G' D' X':=by
 repeat (first
 | ((with_reducible apply Rn.yv); exact yA; exact rfl)
 | ((with_reducible apply Rn.gd); exact rfl; exact rfl; exact rfl; (first | apply R0 | (apply RZ; exact kn; (first | ((with_reducible apply Rn.yv); exact yA; exact rfl) | ((with_reducible apply Rn.st); exact rfl; exact fI; exact rfl; exact (fun a w I=>NY); exact (fun a w I=>Qk); exact rfl))) | (apply RY; exact kn)))
 | ((with_reducible apply Rn.st); exact rfl; exact fI; exact rfl; exact (fun a w I=>NY); exact (fun a w I=>Qk); exact rfl)
 | (with_reducible apply Rn.rz)
 | (with_reducible apply Rn.sq)
 | (with_reducible apply Rn.th)
 | (with_reducible apply Rn.ib)
 | (with_reducible apply Rn.sk)
 | ((with_reducible apply Rn.ct); exact rfl; exact kn)
 | ((with_reducible apply Rn.cf); exact rfl; exact kn))
 exact Rn.fin):Rn W M T n F b G D X G' D' X':=h
theorem O0 (h:Rn W M T n F b G D X G' D' X':=by
 repeat (first
 | ((with_reducible apply Rn.yv); exact yA; exact rfl)
 | ((with_reducible apply Rn.gd); exact rfl; exact rfl; exact rfl; (first | apply R0 | (apply RZ; exact kn; (first | ((with_reducible apply Rn.yv); exact yA; exact rfl) | ((with_reducible apply Rn.st); exact rfl; exact fI; exact rfl; exact (fun a w I=>NY); exact (fun a w I=>Qk); exact rfl))) | (apply RY; exact kn)))
 | ((with_reducible apply Rn.st); exact rfl; exact fI; exact rfl; exact (fun a w I=>NY); exact (fun a w I=>Qk); exact rfl)
 | (with_reducible apply Rn.rz)
 | ((with_reducible apply Rn.rq); exact rfl)
 | (with_reducible apply Rn.sq)
 | (with_reducible apply Rn.th)
 | (with_reducible apply Rn.ib)
 | (with_reducible apply Rn.sk)
 | (with_reducible apply Rn.bl)
 | ((with_reducible apply Rn.ct); exact rfl; exact kn)
 | ((with_reducible apply Rn.cf); exact rfl; exact kn)
 | (with_reducible apply Rn.rl)
 | (with_reducible apply Rn.rt)
 | (with_reducible apply Rn.xt)
 | (with_reducible apply Rn.sqr)
 | (with_reducible apply Rn.thr)
 | (with_reducible apply Rn.ibr)
 | (with_reducible apply Rn.sqe)
 | (with_reducible apply Rn.the)
 | ((with_reducible apply Rn.ibt); exact rfl)
 | ((with_reducible apply Rn.ibf); exact rfl))
 exact Rn.fin):Rn W M T n F b G D X G' D' X':=h
def Su (ops:Array Oper) (listed:Array Bool) (i:Nat):Bool:=Region.free .any ops listed i&&(Region.ready .any ops listed).contains i
def Re (P:Program) (ops:Array Oper) (Q:Exit->Act->World->Prop) (mods:List (Nat×Tn)) (W:World) (M T:Nat->Prop) (n:Nat) (D:List cZ) (F:List cD) (is:List Nat) (fuel:Nat) (ls:Array Bool) (G:List (Nat×Value)) (fuel':Nat) (ls':Array Bool) (G':List (Nat×Value)):Prop :=
 ∀ a w,Region.noSelect ops=true->Qp Q->St W M T n G D F a w->(∀ a,St W M T n G' D F a w->sZ P ops Q mods fuel' ls' a w)->sZ P ops Q mods fuel ls a w
section
variable {mods:List (Nat×Tn)} {fuel fuel' i:Nat} {ls ls':Array Bool} {is:List Nat}
theorem Re.en:Re P ops Q mods W M T n D F [] fuel ls G fuel ls G:=fun a w _ _ I k=>k a I
theorem Re.va {f:Nat} (hfu:fuel=f+1) (hi:ops[i]? = some ⟨some d,op,ty,pos,af,none⟩) (h:Yv P W M T n G D F (Eo (rem ops mods ls i)) op v) (hn:Nat.blt d n=true) (hr:Su ops ls i=true) (k:Re P ops Q mods W M T n D F is f (ls.setIfInBounds i true) ((d,v)::G) fuel' ls' G'):Re P ops Q mods W M T n D F (i::is) fuel ls G fuel' ls' G' :=
 fun a w hs hQ I K=>hfu▸dy i hi hs (Bool.and_eq_true_iff.1 hr).1 (Bool.and_eq_true_iff.1 hr).2 rfl hQ I (h a w _ _ _ _ _ I) rfl rfl hn fun a I=>k a w hs hQ I K
theorem Re.gu {uv:Value} {f:Nat} (hfu:fuel=f+1) (hi:ops[i]? = some ⟨some d,op,ty,pos,af,some (j,want)⟩) (hj:(ops[j]?).bind (·.dst)=some t) (ht:lk G t=some uv) (hn:Nat.blt d n=true) (hr:Su ops ls i=true)
  (k:OU uv want (∃ v,Yv P W M T n G D F (Eo (rem ops mods ls i)) op v/\Re P ops Q mods W M T n D F is f (ls.setIfInBounds i true) ((d,v)::G) fuel' ls' G') (Re P ops Q mods W M T n D F is f (ls.setIfInBounds i true) ((d,undef)::G) fuel' ls' G')):Re P ops Q mods W M T n D F (i::is) fuel ls G fuel' ls' G':=by
 intro a w hs hQ I K;subst hfu;have h1:=Bool.and_eq_true_iff.1 hr;rcases k with⟨c,e1,e2,v,h,k⟩|⟨e1 | e1,k⟩
 ·subst e1;exact So i hi hs h1.1 h1.2 rfl hQ I (h a w _ _ _ _ _ I) rfl hj ht e2 rfl hn fun a I=>k a w hs hQ I K
 ·obtain⟨c,e1,e2⟩:=e1;subst e1;exact SF i hi hs h1.1 h1.2 hQ I rfl hj ht e2 rfl hn fun a I=>k a w hs hQ I K
 ·subst e1;exact RX i hi hs h1.1 h1.2 hQ I rfl hj ht rfl hn fun a I=>k a w hs hQ I K
theorem gE (is:List Nat) {a:Act} {w:World} (I:St W M T n G D F a w) (k:∀ a,St W M T n G' D F a w->sZ P ops Q mods fuel' ls' a w) (h:Re P ops Q mods W M T n D F is fuel ls G fuel' ls' G':=by
 repeat (first
 | ((with_reducible apply Re.va); exact rfl; exact rfl; exact yA; exact rfl; kernel_rfl)
 | ((with_reducible apply Re.gu); exact rfl; exact rfl; exact rfl; exact rfl; exact rfl; kernel_rfl; (first | apply R0 | (apply RZ; exact kn; refine⟨_,yA,?_⟩) | (apply RY; exact kn))))
 exact Re.en) (hs:Region.noSelect ops=true:=by kernel_rfl) (hQ:Qp Q:=by assumption):sZ P ops Q mods fuel ls a w:=h a w hs hQ I k
end
def B0 (F:List cD):List Nat->List cD->Prop
 | _,[]=>True
 | [],_::_=>False
 | j::js,f::F'=>F[j]? = some f/\B0 F js F'
theorem B0.to {F:List cD}:∀ {js:List Nat} {F':List cD},B0 F js F'->Es F F'
 | _,[],_=>trivial
 | [],_::_,h=>h.elim
 | j::js,f::F',h=>⟨⟨j,h.1⟩,h.2.to⟩
theorem SM {F:List cD}:B0 F [] []:=trivial
theorem SL {F F':List cD} {j:Nat} {js:List Nat} {f:cD} (h:F[j]? = some f) (k:B0 F js F'):B0 F (j::js) (f::F'):=⟨h,k⟩
theorem Sx {F F':List cD} {js:List Nat} (h:B0 F js F':=by repeat (first | exact SM | (apply SL; exact rfl))):B0 F js F':=h
theorem Sw:ou D [] []:=trivial
theorem Sv {i:Nat} {is:List Nat} (h:D[i]? = some r) (k:ou D is D'):ou D (i::is) (r::D'):=⟨h,k⟩
theorem QE {is:List Nat} (h:ou D is D':=by repeat (first | exact Sw | (apply Sv; exact rfl))):ou D is D':=h
theorem ou.app:∀ {is js:List Nat} {D0 D1:List cZ},ou D is D0->ou D js D1->ou D (is++js) (D0++D1)
 | [],_,[],_,_,k=>k
 | [],_,_::_,_,h,_=>h.elim
 | _::_,_,[],_,h,_=>h.elim
 | _::_,_,_::_,_,h,k=>⟨h.1,ou.app h.2 k⟩
section
variable {F':List cD} {a:Act} {w:World} {D0 D1:List cZ} {α β:Type} {R:aL α} {R2:aL β} {xs:List α} {ys:List β} {vv v2:Value} {cl B4:bC} {e e2:TypeId}
theorem St.mt (h:St W M T n G D F a w) (is js:List Nat) (hG:MI G G':=by repeat (first | exact trivial | refine⟨rfl,?_⟩)) (hD:ou D is D':=by exact QE) (hF:B0 F js F':=by exact Sx) (hn:is.Nodup:=by decide):St W M T n G' D' F' a w:=h.meet is hn hG hD hF.to
theorem St.sl (h:St W M T n G D F a w) (is js:List Nat) (hD:ou D is D':=by exact QE) (hF:B0 F js F':=by exact Sx) (hn:is.Nodup:=by decide):St W M T n [] D' F' a w:=h.meet is hn trivial hD hF.to
theorem St.rd (h:St W M T n G D F a w) (is:List Nat) (hD:ou D is D':=by exact QE) (hn:is.Nodup:=by decide):St W M T n G D' F a w:=h.reD is hn hD
theorem St.re (h:St W M T n G D F a w) (is js:List Nat) (h0:ou D is D0:=by exact QE) (h1:ou D js D1:=by exact QE) (hn:(is++js).Nodup:=by decide):St W M T n G (D0++D1) F a w:=h.reD (is++js) hn (h0.app h1)
theorem St.fS (h:St W M T n G D F a w) (k:aG R (dT T D) w vv xs):St W M T n G D (aQ R vv xs::F) a w:=h.fact (aQ R vv xs) k
theorem St.fR (h:St W M T n G D F a w) (k:aY R (dT T D) w cl xs):St W M T n G D (ao R cl xs::F) a w:=h.fact (ao R cl xs) k
theorem St.fM {κ ν:Type} {RK:aL κ} {ak:Bool} {RV:aL ν} {av:Bool} {es:Array MapEntry} {ms:List (κ×ν)} (h:St W M T n G D F a w) (k:cb RK ak RV av (dT T D) w es ms):St W M T n G D (qi RK ak RV av es ms::F) a w:=h.fact (qi RK ak RV av es ms) k
theorem fp (U:∀ rs:List cZ,(∀ r∈rs,r.ok w'/\∀ k,r.dom k->w.heap.size<=k)->(rs.Pairwise fun r s=>∀ k,r.dom k->¬ s.dom k)->St W M T n G (rs++D) F a w'):St W M T n G D F a w':=U [] (fun r hr=>by cases hr) rn
theorem uc (U:∀ rs:List cZ,(∀ r∈rs,r.ok w'/\∀ k,r.dom k->w.heap.size<=k)->(rs.Pairwise fun r s=>∀ k,r.dom k->¬ s.dom k)->St W M T n G (rs++D) F a w') (h:j9 R (dT T D) w w' [.own vv e R.size cl] e vv cl xs) (h0:0<R.size:=by decide):St W M T n G ([.own vv e R.size cl]++D) (ao R cl xs::F) a w' :=
 (U [.own vv e R.size cl] (kD ⟨h.1,h0⟩ h.2.1) (Af _)).fact (ao R cl xs) (h.2.2.keep (aj _ _) (rh _))
theorem BV (U:∀ rs:List cZ,(∀ r∈rs,r.ok w'/\∀ k,r.dom k->w.heap.size<=k)->(rs.Pairwise fun r s=>∀ k,r.dom k->¬ s.dom k)->St W M T n G (rs++D) F a w') (h:j9 R (dT T D) w w' [.own vv e R.size cl,.own v2 e2 R2.size B4] e vv cl xs) (k:j9 R2 (dT T D) w w' [.own vv e R.size cl,.own v2 e2 R2.size B4] e2 v2 B4 ys) (hp:∀ k,vv.ownBlock=some k->v2.ownBlock≠some k) (h0:0<R.size:=by decide) (k0:0<R2.size:=by decide):St W M T n G ([.own vv e R.size cl,.own v2 e2 R2.size B4]++D) (ao R2 B4 ys::ao R cl xs::F) a w' :=
 ((U [.own vv e R.size cl,.own v2 e2 R2.size B4] (O1 ⟨h.1,h0⟩ h.2.1 ⟨k.1,k0⟩ k.2.1) (SJ hp)).fact (ao R cl xs) (h.2.2.keep (aj _ _) (rh _))).fact (ao R2 B4 ys) (k.2.2.keep (aj _ _) (rh _))
theorem SK {is:List Nat} (h:ou D is D':=by repeat (first | exact Sw | (apply Sv; exact fI))):ou D is D':=h
theorem St.mtS {is:List Nat} (h:St W M T n G D F a w) (hG:MI G G':=by repeat (first | exact trivial | refine⟨rfl,?_⟩)) (hD:ou D is D':=by exact SK) (hF:Es F F':=by repeat (first | exact trivial | refine⟨fD,?_⟩)) (hn:is.Nodup:=by decide):St W M T n G' D' F' a w:=h.meet is hn hG hD hF
end
theorem lo {R Y:Type} {u r:R} {f:Fl S R} {k:R->Option Y} {y:Y} (B:some (Fl.out u)=some f) (hf:∀ u,f = .out u->u=r) (O:k r=some y):k u=some y:=by
 rw [hf u (cJ B).symm]; exact O
theorem Qi {R Y S2:Type} {s:S2} {r:Fl S2 R} {f:Fl S (Fl S2 R)} {p:S2->Option Y} {q:R->Option Y} {y:Y} (B:some (Fl.out (Fl.go s))=some f) (hf:∀ u,f = .out u->u=r) (O:Fl.el r p q=some y):p s=some y:=by
 have h:=hf _ (cJ B).symm;subst h; exact O
theorem Nj {R Y S2:Type} {s:R} {r:Fl S2 R} {f:Fl S (Fl S2 R)} {p:S2->Option Y} {q:R->Option Y} {y:Y} (B:some (Fl.out (Fl.out s))=some f) (hf:∀ u,f = .out u->u=r) (O:Fl.el r p q=some y):q s=some y:=by
 have h:=hf _ (cJ B).symm;subst h; exact O
theorem cd {α:Type} {b:Bool} {x y r:α} (h:cond b x y=r):(b=true/\x=r)∨(b=false/\y=r):=by cases b <;> simp_all
theorem go {a:Act} {w:World} (I:St W M T n G D F a w) (k:∀ a w,St W M T n G' D' F a w->X' a w) (h:Rn W M T n F false G D X G' D' X':=by exact O0):X a w:=h w (fun a w' _ I=>k a w' I) a I
theorem FP {a:Act} {w:World} (I:St W M T n G D F a w) (k:∀ a,St W M T n G' D' F a w->X' a w) (h:Rn W M T n F true G D X G' D' X':=by exact SC):X a w:=h w (fun a w' e I=>by cases e rfl; exact k a I) a I
theorem al {a:Act} {w:World} (I:St W M T n G D F a w) (k:∀ a,St W M T n G' D' F a w->X' a w) (h:Rn W M T n F true G D X G' D' X':=by exact O0):X a w:=h w (fun a w' e I=>by cases e rfl; exact k a I) a I
section
variable {a:Act} {w:World} {E:Nat->Prop} {o:Oper} {fuel:Nat} {ls:Array Bool} {mods:List (Nat×Tn)} {cs us:bC} {ag:Bool} {Z bb off:Nat} {bt e:TypeId} {xx yy X Y:Operand} {g:Option (Nat×Bool)} {args:Array Operand} {tys:Array TypeId} {f:Nat} {vs:bC} {R:Value->World->Prop} {fn:Func}
theorem en {c:Code} {L:World} {av:bC} (hf:P.funcs[f]? = some fn) (hn:fn.ntmps=n) (hT:∀ k,T k->k<L.heap.size) (h:∀ a,St L M T n (mO 0 av) [] [] a L->c.wp P (bodyPost P fn (OZ M L R)) a L) (hb:fn.body=some c:=by rfl) (hl:Nat.ble av.length n=true:=by rfl):bc P M f av L R:=enter hf hb T n hn hT hl h
theorem ka (I:St W M T n G D F a w) (hz:gj P tt=some cs) (k:∀ b,w.heap.size<=b->∀ a w',Kt No w w'->St W M T n ((d,.pointer (some ⟨b,0,none⟩))::G) (.box b cs tt::D) F a w'->wpList P ops Q l a w') (hn:Nat.blt d n=true:=by rfl):wpList P ops Q (⟨some d,.alloc tt,ty,pos,af,none⟩::l) a w:=wl rfl (dP I hz hn k)
theorem kb (I:St W M T n G D F a w) (k:∀ b,w.heap.size<=b->∀ a w',Kt No w w'->St W M T n ((d,.pointer (some ⟨b,0,none⟩))::G) (.box b cs tt::D) F a w'->wpList P ops Q l a w') (hx:ev G X=some v:=by rfl) (hv:Cl Z v cs:=by exact NY) (hn:Nat.blt d n=true:=by rfl):wpList P ops Q (⟨some d,.box tt X,ty,pos,af,none⟩::l) a w:=wl rfl (G9 I hx hv.1 hn k)
theorem kc (I:St W M T n G D F a w) (hf:aP P f=true) (hc:bc P No f vs w R)
  (k:∀ v w',R v w'->∀ a,Kt No w w'->(∀ rs:List cZ,(∀ r∈rs,r.ok w'/\∀ k,r.dom k->w.heap.size<=k)->(rs.Pairwise fun r s=>∀ k,r.dom k->¬ s.dom k)->St W M T n ((d,v)::G) (rs++D) F a w')->wpList P ops Q l a w') (hargs:evs G args.toList=some vs:=by rfl) (hn:Nat.blt d n=true:=by rfl):wpList P ops Q (⟨some d,.call { callee:=.value (.func f),args:=args,argTypes:=tys },ty,pos,af,none⟩::l) a w:=wl rfl (bL I hf hargs hn hc k)
theorem kE (I:St W M T n G D F a w) (hf:aP P f=true) (hc:bc P No f vs w (fun v _=>v=v0)) (k:∀ w' a,St W M T n ((d,v0)::G) D F a w'->wpList P ops Q l a w') (hargs:evs G args.toList=some vs:=by rfl) (hn:Nat.blt d n=true:=by rfl):wpList P ops Q (⟨some d,.call { callee:=.value (.func f),args:=args,argTypes:=tys },ty,pos,af,none⟩::l) a w :=
 kc I hf hc (fun v w' C a _ U=>by subst C; exact k w' a (fp U)) hargs hn
theorem kF (I:St W M T n G D F a w) (hf:aP P f=true) (hc:bc P No f vs w (fun v _=>v=v0)) (k:∀ w' a,St W M T n G' D' F a w'->X' a w') (hargs:evs G args.toList=some vs:=by rfl) (hn:Nat.blt d n=true:=by rfl) (h:Rn W M T n F true ((d,v0)::G) D (fun a w=>wpList P ops Q l a w) G' D' X':=by exact O0):wpList P ops Q (⟨some d,.call { callee:=.value (.func f),args:=args,argTypes:=tys },ty,pos,af,none⟩::l) a w :=
 kE I hf hc (fun w' a I=>al I (k w') h) hargs hn
theorem kA {X:Act->World->Prop} (I:St W M T n G D F a w) (hz:gj P tt=some cs) (k:∀ b,w.heap.size<=b->∀ a w',Kt No w w'->St W M T n ((d,.pointer (some ⟨b,0,none⟩))::G') (.box b cs tt::D') F a w'->wpList P ops Q l a w') (h:Rn W M T n F true G D X G' D' (fun a w=>wpList P ops Q (⟨some d,.alloc tt,ty,pos,af,none⟩::l) a w):=by exact O0) (hn:Nat.blt d n=true:=by rfl):X a w:=al I (fun a I=>ka I hz k hn) h
theorem kB {X:Act->World->Prop} {X0:Operand} (I:St W M T n G D F a w) (k:∀ b,w.heap.size<=b->∀ a w',Kt No w w'->St W M T n ((d,.pointer (some ⟨b,0,none⟩))::G') (.box b cs tt::D') F a w'->wpList P ops Q l a w') (h:Rn W M T n F true G D X G' D' (fun a w=>wpList P ops Q (⟨some d,.box tt X0,ty,pos,af,none⟩::l) a w):=by exact O0) (hx:ev G' X0=some v:=by rfl) (hv:Cl Z v cs:=by exact NY) (hn:Nat.blt d n=true:=by rfl):X a w:=al I (fun a I=>kb I k hx hv hn) h
theorem e1 (i:Nat) (h:ru P o a w (fun a' w'=>MH mods i w w'/\sZ P ops Q mods fuel (ls.setIfInBounds i true) a' w')) (hi:ops[i]? = some o:=by rfl) (hr:Region.ready .any ops ls=[i]:=by kernel_rfl) (hg:o.guard=none:=by rfl):sZ P ops Q mods (fuel+1) ls a w:=uM hi hr hg h
theorem ec (i:Nat) (I:St W M T n G D F a w) (hf:aP P f=true) (hc:bc P No f vs w R)
  (k:∀ v w',R v w'->∀ a,Kt No w w'->(∀ rs:List cZ,(∀ r∈rs,r.ok w'/\∀ k,r.dom k->w.heap.size<=k)->(rs.Pairwise fun r s=>∀ k,r.dom k->¬ s.dom k)->St W M T n ((d,v)::G) (rs++D) F a w')->sZ P ops Q mods fuel (ls.setIfInBounds i true) a w') (hi:ops[i]? = some ⟨some d,.call { callee:=.value (.func f),args:=args,argTypes:=tys },ty,pos,af,none⟩:=by rfl) (hr:Region.ready .any ops ls=[i]:=by kernel_rfl) (hargs:evs G args.toList=some vs:=by rfl) (hn:Nat.blt d n=true:=by rfl):sZ P ops Q mods (fuel+1) ls a w :=
 uM hi hr rfl (bL I hf hargs hn hc fun v w' C a O U=>⟨gO O,k v w' C a O U⟩)
theorem es (i:Nat) [ct:tz P tt ag Z] {q:Nat} (I:St W M T n G D F a w) (k:∀ w',St W M T n G (D.set q (.box bb (ov cs off us) bt)) F a w'->sZ P ops Q mods fuel (ls.setIfInBounds i true) a w') (hi:ops[i]? = some ⟨none,.store tt xx yy,ty,pos,af,none⟩:=by rfl) (hr:Region.ready .any ops ls=[i]:=by kernel_rfl) (hx:ev G xx=some (.pointer (some ⟨bb,off,none⟩)):=by rfl) (hD:D[q]? = some (.box bb cs bt):=by exact fI) (hy:ev G yy=some v:=by rfl) (h1:Cl Z v us:=by exact NY) (h2:∀ u∈us,u.oneCell'=true:=by exact Qk) (hl:Nat.ble (off+Z) cs.length=true:=by rfl) (hm:xj mods i=[.blk (some bb)]:=by rfl):sZ P ops Q mods (fuel+1) ls a w :=
 uM hi hr rfl (ul I hx hy h1.1 ct.h q hD h1.2 hl h2 fun w' O I=>⟨kU hm O jD,k w' I⟩)
theorem eD (h:Q .normal a w) (hr:Region.ready .any ops ls=[]:=by kernel_rfl):sZ P ops Q mods fuel ls a w:=Fy hr h fuel
theorem dr {N:Nat} (mods:List (Nat×Tn)) (I:St W M T n G D F a w) (h:∀ w,Qp Q->St W M T n G D F a w->sZ P l.toArray Q mods N (Array.replicate N false) a w) (hm:P.follows .mixedOrders=true:=by exact mixed) (hN:l.length=N:=by rfl) (hQ:Qp Q:=by exact (fun c a d v w h=>by cases d <;> exact h)):(Code.region id l.toArray true).wp P Q a w:=Nf mods I hm hN hQ h
theorem rC [ct:tz P tt ag Z] {c:Nat} (i:Nat) (I:St W M T n G D F a w) (hv:lk G c=some (.pointer (some ⟨bb,0,none⟩)):=by rfl) (hi:D[i]? = some (.box bb cs bt):=by rfl) (hl:cs.length=Z:=by rfl) (hz:ag=false->Z=1:=by first | exact (fun h=>by cases h) | exact fun _=>rfl):wG P a w [.cell c tt] [bB ag cs]:=bu I hv i hi ct.h hl hz aC
end
theorem fin {p:Prop} (h:p:=by
 first
 | ((repeat (apply zT)); exact⟨I.mtS,B⟩)
 | (refine⟨_,(cJ B).symm,?_⟩; (repeat (apply zT)); exact⟨rfl,I.mtS⟩)
 | (cases B; exact aE I rfl (ap I rfl aC) rfl)
 | (have B:=Qi B hf1 hMo1; first | ((repeat (apply zT)); exact⟨I.mtS,B⟩) | (cases B; exact aE I rfl (ap I rfl aC) rfl))
 | (have B:=Nj B hf1 hMo1; first | ((repeat (apply zT)); exact⟨I.mtS,B⟩) | (cases B; exact aE I rfl (ap I rfl aC) rfl))
 | (have B:=lo B hf1 hMo1; first | ((repeat (apply zT)); exact⟨I.mtS,B⟩) | (cases B; exact aE I rfl (ap I rfl aC) rfl))
 | (have B:=Qi B hf2 hMo2; first | ((repeat (apply zT)); exact⟨I.mtS,B⟩) | (cases B; exact aE I rfl (ap I rfl aC) rfl))
 | (have B:=Nj B hf2 hMo2; first | ((repeat (apply zT)); exact⟨I.mtS,B⟩) | (cases B; exact aE I rfl (ap I rfl aC) rfl))
 | (have B:=lo B hf2 hMo2; first | ((repeat (apply zT)); exact⟨I.mtS,B⟩) | (cases B; exact aE I rfl (ap I rfl aC) rfl))):p:=h
theorem fz {p:Prop} (h:p:=by
 refine go I fun a w I=>?_
 repeat' (first | exact fin | (rcases cd B with⟨_,B⟩|⟨_,B⟩ <;> refine go I fun a w I=>?_))):p:=h
end
end
section
variable {P:Program} {W:World} {M T:Nat->Prop} {n:Nat} {G G':List (Nat×Value)} {D D':List cZ} {F F':List cD} {a:Act} {w:World} {ops:Array Oper} {Q:Exit->Act->World->Prop} {fuel:Nat} {listed:Array Bool} {mods:List (Nat×Tn)} {l:List Tn} {o:Oper} {v:Value} {d j t:Nat} {want c:Bool}
theorem dq (i:Nat) (I:St W M T n G D F a w) (h:Ye P o a (Eo l) w v) (k:∀ a,St W M T n ((d,v)::G) D F a w->sZ P ops Q mods fuel (listed.setIfInBounds i true) a w) (hQ:Qp Q:=by assumption) (hi:ops[i]? = some o:=by rfl) (hg:o.guard=none:=by rfl) (hd:o.dst=some d:=by rfl) (hn:Nat.blt d n=true:=by rfl)
  (hb:rem ops mods listed i=l:=by first | rfl | kernel_rfl) (hs:Region.noSelect ops=true:=by kernel_rfl) (hf:Region.free .any ops listed i=true:=by kernel_rfl) (hr:(Region.ready .any ops listed).contains i=true:=by kernel_rfl):sZ P ops Q mods (fuel+1) listed a w:=dy i hi hs hf hr hb hQ I h hg hd hn k
theorem dg (i:Nat) (I:St W M T n G D F a w) (hc:c=want) (h:Ye P o a (Eo l) w v) (k:∀ a,St W M T n ((d,v)::G) D F a w->sZ P ops Q mods fuel (listed.setIfInBounds i true) a w) (hQ:Qp Q:=by assumption) (hi:ops[i]? = some o:=by rfl) (hg:o.guard=some (j,want):=by rfl) (hj:(ops[j]?).bind (·.dst)=some t:=by rfl) (ht:lk G t=some (.bool c):=by rfl) (hd:o.dst=some d:=by rfl) (hn:Nat.blt d n=true:=by rfl)
  (hb:rem ops mods listed i=l:=by first | rfl | kernel_rfl) (hs:Region.noSelect ops=true:=by kernel_rfl) (hf:Region.free .any ops listed i=true:=by kernel_rfl) (hr:(Region.ready .any ops listed).contains i=true:=by kernel_rfl):sZ P ops Q mods (fuel+1) listed a w:=So i hi hs hf hr hb hQ I h hg hj ht hc hd hn k
end
section
variable {P:Program} {W:World} {M T:Nat->Prop} {n:Nat} {G:List (Nat×Value)} {D D0 Dr:List cZ} {F:List cD} {a:Act} {w:World} {f z0 z1 z2 z3 z4 z5 z6 z7 z8 z9 z10 z11 z12 z13 z14 z15 z16 z17 z18 z19 z20 z21 z22 z23 z24 z25 z26 z27 z28 z29 z30:cD}
theorem St.g0 (h:St W M T n G D (f::F) a w):f.p (dT T D) w:=h.get 0 rfl
theorem St.d0 (h:St W M T n G (D0++Dr) (f::F) a w):f.p (dT (dT T Dr) D0) w:=h.getD 0 rfl
theorem St.g1 (h:St W M T n G D (z0::f::F) a w):f.p (dT T D) w:=h.get 1 rfl
theorem St.d1 (h:St W M T n G (D0++Dr) (z0::f::F) a w):f.p (dT (dT T Dr) D0) w:=h.getD 1 rfl
theorem St.g2 (h:St W M T n G D (z0::z1::f::F) a w):f.p (dT T D) w:=h.get 2 rfl
theorem St.d2 (h:St W M T n G (D0++Dr) (z0::z1::f::F) a w):f.p (dT (dT T Dr) D0) w:=h.getD 2 rfl
theorem St.g3 (h:St W M T n G D (z0::z1::z2::f::F) a w):f.p (dT T D) w:=h.get 3 rfl
theorem St.d3 (h:St W M T n G (D0++Dr) (z0::z1::z2::f::F) a w):f.p (dT (dT T Dr) D0) w:=h.getD 3 rfl
theorem St.g4 (h:St W M T n G D (z0::z1::z2::z3::f::F) a w):f.p (dT T D) w:=h.get 4 rfl
theorem St.d4 (h:St W M T n G (D0++Dr) (z0::z1::z2::z3::f::F) a w):f.p (dT (dT T Dr) D0) w:=h.getD 4 rfl
theorem St.g5 (h:St W M T n G D (z0::z1::z2::z3::z4::f::F) a w):f.p (dT T D) w:=h.get 5 rfl
theorem St.d5 (h:St W M T n G (D0++Dr) (z0::z1::z2::z3::z4::f::F) a w):f.p (dT (dT T Dr) D0) w:=h.getD 5 rfl
theorem St.g6 (h:St W M T n G D (z0::z1::z2::z3::z4::z5::f::F) a w):f.p (dT T D) w:=h.get 6 rfl
theorem St.d6 (h:St W M T n G (D0++Dr) (z0::z1::z2::z3::z4::z5::f::F) a w):f.p (dT (dT T Dr) D0) w:=h.getD 6 rfl
theorem St.g7 (h:St W M T n G D (z0::z1::z2::z3::z4::z5::z6::f::F) a w):f.p (dT T D) w:=h.get 7 rfl
theorem St.d7 (h:St W M T n G (D0++Dr) (z0::z1::z2::z3::z4::z5::z6::f::F) a w):f.p (dT (dT T Dr) D0) w:=h.getD 7 rfl
theorem St.g8 (h:St W M T n G D (z0::z1::z2::z3::z4::z5::z6::z7::f::F) a w):f.p (dT T D) w:=h.get 8 rfl
theorem St.d8 (h:St W M T n G (D0++Dr) (z0::z1::z2::z3::z4::z5::z6::z7::f::F) a w):f.p (dT (dT T Dr) D0) w:=h.getD 8 rfl
theorem St.g9 (h:St W M T n G D (z0::z1::z2::z3::z4::z5::z6::z7::z8::f::F) a w):f.p (dT T D) w:=h.get 9 rfl
theorem St.d9 (h:St W M T n G (D0++Dr) (z0::z1::z2::z3::z4::z5::z6::z7::z8::f::F) a w):f.p (dT (dT T Dr) D0) w:=h.getD 9 rfl
theorem St.g10 (h:St W M T n G D (z0::z1::z2::z3::z4::z5::z6::z7::z8::z9::f::F) a w):f.p (dT T D) w:=h.get 10 rfl
theorem St.d10 (h:St W M T n G (D0++Dr) (z0::z1::z2::z3::z4::z5::z6::z7::z8::z9::f::F) a w):f.p (dT (dT T Dr) D0) w:=h.getD 10 rfl
theorem St.g11 (h:St W M T n G D (z0::z1::z2::z3::z4::z5::z6::z7::z8::z9::z10::f::F) a w):f.p (dT T D) w:=h.get 11 rfl
theorem St.d11 (h:St W M T n G (D0++Dr) (z0::z1::z2::z3::z4::z5::z6::z7::z8::z9::z10::f::F) a w):f.p (dT (dT T Dr) D0) w:=h.getD 11 rfl
theorem St.g12 (h:St W M T n G D (z0::z1::z2::z3::z4::z5::z6::z7::z8::z9::z10::z11::f::F) a w):f.p (dT T D) w:=h.get 12 rfl
theorem St.d12 (h:St W M T n G (D0++Dr) (z0::z1::z2::z3::z4::z5::z6::z7::z8::z9::z10::z11::f::F) a w):f.p (dT (dT T Dr) D0) w:=h.getD 12 rfl
theorem St.g13 (h:St W M T n G D (z0::z1::z2::z3::z4::z5::z6::z7::z8::z9::z10::z11::z12::f::F) a w):f.p (dT T D) w:=h.get 13 rfl
theorem St.d13 (h:St W M T n G (D0++Dr) (z0::z1::z2::z3::z4::z5::z6::z7::z8::z9::z10::z11::z12::f::F) a w):f.p (dT (dT T Dr) D0) w:=h.getD 13 rfl
theorem St.g14 (h:St W M T n G D (z0::z1::z2::z3::z4::z5::z6::z7::z8::z9::z10::z11::z12::z13::f::F) a w):f.p (dT T D) w:=h.get 14 rfl
theorem St.d14 (h:St W M T n G (D0++Dr) (z0::z1::z2::z3::z4::z5::z6::z7::z8::z9::z10::z11::z12::z13::f::F) a w):f.p (dT (dT T Dr) D0) w:=h.getD 14 rfl
theorem St.g15 (h:St W M T n G D (z0::z1::z2::z3::z4::z5::z6::z7::z8::z9::z10::z11::z12::z13::z14::f::F) a w):f.p (dT T D) w:=h.get 15 rfl
theorem St.g16 (h:St W M T n G D (z0::z1::z2::z3::z4::z5::z6::z7::z8::z9::z10::z11::z12::z13::z14::z15::f::F) a w):f.p (dT T D) w:=h.get 16 rfl
theorem St.d16 (h:St W M T n G (D0++Dr) (z0::z1::z2::z3::z4::z5::z6::z7::z8::z9::z10::z11::z12::z13::z14::z15::f::F) a w):f.p (dT (dT T Dr) D0) w:=h.getD 16 rfl
theorem St.g17 (h:St W M T n G D (z0::z1::z2::z3::z4::z5::z6::z7::z8::z9::z10::z11::z12::z13::z14::z15::z16::f::F) a w):f.p (dT T D) w:=h.get 17 rfl
theorem St.g18 (h:St W M T n G D (z0::z1::z2::z3::z4::z5::z6::z7::z8::z9::z10::z11::z12::z13::z14::z15::z16::z17::f::F) a w):f.p (dT T D) w:=h.get 18 rfl
theorem St.g19 (h:St W M T n G D (z0::z1::z2::z3::z4::z5::z6::z7::z8::z9::z10::z11::z12::z13::z14::z15::z16::z17::z18::f::F) a w):f.p (dT T D) w:=h.get 19 rfl
theorem St.d20 (h:St W M T n G (D0++Dr) (z0::z1::z2::z3::z4::z5::z6::z7::z8::z9::z10::z11::z12::z13::z14::z15::z16::z17::z18::z19::f::F) a w):f.p (dT (dT T Dr) D0) w:=h.getD 20 rfl
theorem St.d21 (h:St W M T n G (D0++Dr) (z0::z1::z2::z3::z4::z5::z6::z7::z8::z9::z10::z11::z12::z13::z14::z15::z16::z17::z18::z19::z20::f::F) a w):f.p (dT (dT T Dr) D0) w:=h.getD 21 rfl
theorem St.d22 (h:St W M T n G (D0++Dr) (z0::z1::z2::z3::z4::z5::z6::z7::z8::z9::z10::z11::z12::z13::z14::z15::z16::z17::z18::z19::z20::z21::f::F) a w):f.p (dT (dT T Dr) D0) w:=h.getD 22 rfl
theorem St.d24 (h:St W M T n G (D0++Dr) (z0::z1::z2::z3::z4::z5::z6::z7::z8::z9::z10::z11::z12::z13::z14::z15::z16::z17::z18::z19::z20::z21::z22::z23::f::F) a w):f.p (dT (dT T Dr) D0) w:=h.getD 24 rfl
end
end
section
open Go.RowKit
structure bw where
  v1:(List Int)
theorem AB:QZ aO 262=some (2,103):=by kernel_rfl
theorem MP:aP aO 110=true:=by kernel_rfl
theorem PT:aP aO 43=true:=by kernel_rfl
theorem ve:aP aO 44=true:=by kernel_rfl
theorem Rs:aP aO 45=true:=by kernel_rfl
theorem Rt:aP aO 46=true:=by kernel_rfl
theorem Jk:aP aO 47=true:=by kernel_rfl
theorem Ly:aP aO 48=true:=by kernel_rfl
theorem Ru:aP aO 49=true:=by kernel_rfl
theorem Rv:aP aO 50=true:=by kernel_rfl
theorem Rw:aP aO 51=true:=by kernel_rfl
theorem Rx:aP aO 52=true:=by kernel_rfl
theorem PU:aP aO 53=true:=by kernel_rfl
theorem P1:aP aO 76=true:=by kernel_rfl
theorem RJ:aP aO 77=true:=by kernel_rfl
theorem RL:aP aO 78=true:=by kernel_rfl
theorem RM:aP aO 79=true:=by kernel_rfl
theorem RN:aP aO 80=true:=by kernel_rfl
theorem NV:aP aO 81=true:=by kernel_rfl
theorem P4:B7 aO 194=some (103,1,8):=by kernel_rfl
theorem Qu:BW aO 87=some [(0,1)]:=by kernel_rfl
theorem Nu:mW aO 194=some 103:=by kernel_rfl
theorem QJ:pQ aO 85=some (false,1):=by kernel_rfl
theorem QQ:gj aO 103=some [.int .u64 0]:=by kernel_rfl
theorem QU:gj aO 262=some [.int .u64 0,.int .u64 0]:=by kernel_rfl
theorem QV:gj aO 85=some [.pointer none]:=by kernel_rfl
theorem QW:gj aO 87=some [.slice none 0 0]:=by kernel_rfl
end
section
open Go.RowKit
structure aH where
  q:ByteArray
  h:Bool
structure aV where
  S:ByteArray
  h:Bool
theorem I9:aP aO 10=true:=by kernel_rfl
theorem Rc:aP aO 11=true:=by kernel_rfl
theorem Rd:aP aO 12=true:=by kernel_rfl
theorem Jd:aP aO 128=true:=by kernel_rfl
theorem EA:aP aO 129=true:=by kernel_rfl
theorem Rf:aP aO 13=true:=by kernel_rfl
theorem GU:aP aO 130=true:=by kernel_rfl
theorem Pb:aP aO 131=true:=by kernel_rfl
theorem Pc:aP aO 132=true:=by kernel_rfl
theorem GV:aP aO 133=true:=by kernel_rfl
theorem Pg:aP aO 138=true:=by kernel_rfl
theorem Ph:aP aO 139=true:=by kernel_rfl
theorem Jf:aP aO 15=true:=by kernel_rfl
theorem Pp:aP aO 16=true:=by kernel_rfl
theorem Rg:aP aO 17=true:=by kernel_rfl
theorem PA:aP aO 181=true:=by kernel_rfl
theorem Rh:aP aO 19=true:=by kernel_rfl
theorem Ri:aP aO 20=true:=by kernel_rfl
theorem NP:aP aO 21=true:=by kernel_rfl
theorem PM:aP aO 23=true:=by kernel_rfl
theorem Rj:aP aO 24=true:=by kernel_rfl
theorem Rk:aP aO 25=true:=by kernel_rfl
theorem LD:aP aO 60=true:=by kernel_rfl
theorem wB:aP aO 61=true:=by kernel_rfl
theorem Rz:aP aO 62=true:=by kernel_rfl
theorem RA:aP aO 63=true:=by kernel_rfl
theorem RC:aP aO 64=true:=by kernel_rfl
theorem RD:aP aO 65=true:=by kernel_rfl
theorem PX:aP aO 66=true:=by kernel_rfl
theorem RE:aP aO 67=true:=by kernel_rfl
theorem Ia:aP aO 68=true:=by kernel_rfl
theorem PY:aP aO 69=true:=by kernel_rfl
theorem PZ:aP aO 70=true:=by kernel_rfl
theorem NU:aP aO 71=true:=by kernel_rfl
theorem RO:aP aO 83=true:=by kernel_rfl
theorem RP:aP aO 84=true:=by kernel_rfl
theorem RQ:aP aO 85=true:=by kernel_rfl
theorem RR:aP aO 86=true:=by kernel_rfl
theorem SD:aP aO 9=true:=by kernel_rfl
theorem Qo:BW aO 118=some [(0,1),(1,1)]:=by kernel_rfl
theorem Qr:BW aO 189=some [(0,1),(1,1)]:=by kernel_rfl
theorem QG:mW aO 61=some 5:=by kernel_rfl
theorem Se:pQ aO 5=some (false,1):=by kernel_rfl
theorem QR:gj aO 118=some [.string cg,.bool false]:=by kernel_rfl
theorem QS:gj aO 189=some [.string cg,.bool false]:=by kernel_rfl
theorem N1 {W:World} {M T E:Nat->Prop} {n:Nat} {G:List (Nat×Value)} {D:List cZ} {F:List cD} {a:Act} {w:World} {d:Option Nat} {t2:TypeId} {x y:Operand} {ty:TypeId} {pos:String} {af:Array Edge} {g:Option (Nat×Bool)} {p0 q0:Int} {p1 q1:ByteArray} {p2 q2:Int} {p3 q3:Int} (I:St W M T n G D F a w) (hx:ev G x=some (.agg #[.int .i64 p0,.string p1,.int .i64 p2,.int .u64 p3])) (hy:ev G y=some (.agg #[.int .i64 q0,.string q1,.int .i64 q2,.int .u64 q3])):Ye aO ⟨d,.binOp .neq 128 x y t2,ty,pos,af,g⟩ a E w (.bool (!(p0==q0&&p1.toList==q1.toList&&p2==q2&&p3==q3))) :=
  Ye.of fun w=>by
    have h1:=I.ev hx
    have h2:=I.ev hy
    clear I hx hy
    simp only [execOp,h1,h2,eqGuard]
    simp [go_sem]
    (repeat' split) <;> simp_all
end
section
open Go.RowKit
instance:tz aO 103 false 1:=⟨wT⟩
instance:tz aO 105 true 2:=⟨BH⟩
instance:tz aO 128 true 4:=⟨BI⟩
instance:tz aO 221 false 1:=⟨by kernel_rfl⟩
instance:tz aO 49 false 1:=⟨by kernel_rfl⟩
instance:tz aO 51 true 5:=⟨uK⟩
instance:mN aO 105 0 0:=⟨by kernel_rfl⟩
instance:mN aO 105 1 1:=⟨by kernel_rfl⟩
instance:mN aO 128 0 0:=⟨by kernel_rfl⟩
instance:mN aO 128 1 2:=⟨by kernel_rfl⟩
instance:mN aO 223 3 5:=⟨by kernel_rfl⟩
instance:mN aO 51 0 0:=⟨by kernel_rfl⟩
instance:mN aO 51 1 2:=⟨by kernel_rfl⟩
instance:mN aO 51 2 3:=⟨by kernel_rfl⟩
instance:mN aO 51 3 4:=⟨by kernel_rfl⟩
instance:FO aO 48 51:=⟨yt⟩
instance:FO aO 49 128:=⟨Gv⟩
instance:tz aO 61 false 1:=⟨by kernel_rfl⟩
instance:tz aO 85 false 1:=⟨QJ⟩
instance:mN aO 87 0 0:=⟨by kernel_rfl⟩
instance:FO aO 194 103:=⟨Nu⟩
instance:tz aO 5 false 1:=⟨Se⟩
instance:mN aO 118 0 0:=⟨by kernel_rfl⟩
instance:mN aO 118 1 1:=⟨by kernel_rfl⟩
instance:mN aO 189 0 0:=⟨by kernel_rfl⟩
instance:mN aO 189 1 1:=⟨by kernel_rfl⟩
instance:FO aO 61 5:=⟨QG⟩
instance:tz aO 22 false 1:=⟨Sd⟩
instance:tz aO 23 false 1:=⟨by kernel_rfl⟩
instance:tz aO 25 true 3:=⟨gF⟩
instance:tz aO 3 false 1:=⟨Ea⟩
instance:tz aO 30 true 2:=⟨ix⟩
instance:tz aO 31 false 1:=⟨Gy⟩
instance:tz aO 33 true 8:=⟨ow⟩
instance:tz aO 4 false 1:=⟨OD⟩
instance:tz aO 9 false 1:=⟨Ld⟩
instance:tz aO 91 true 4:=⟨BJ⟩
instance:mN aO 25 0 0:=⟨by kernel_rfl⟩
instance:mN aO 25 1 1:=⟨by kernel_rfl⟩
instance:mN aO 25 2 2:=⟨by kernel_rfl⟩
instance:mN aO 30 0 0:=⟨by kernel_rfl⟩
instance:mN aO 30 1 1:=⟨by kernel_rfl⟩
instance:mN aO 33 0 0:=⟨by kernel_rfl⟩
instance:mN aO 33 1 2:=⟨by kernel_rfl⟩
instance:mN aO 33 2 3:=⟨by kernel_rfl⟩
instance:mN aO 33 3 4:=⟨by kernel_rfl⟩
instance:mN aO 33 4 5:=⟨by kernel_rfl⟩
instance:mN aO 33 5 6:=⟨by kernel_rfl⟩
instance:mN aO 33 6 7:=⟨by kernel_rfl⟩
instance:mN aO 91 0 0:=⟨by kernel_rfl⟩
instance:mN aO 91 1 2:=⟨by kernel_rfl⟩
instance:mN aO 91 2 3:=⟨by kernel_rfl⟩
instance:FO aO 22 91:=⟨Cu⟩
instance:FO aO 23 33:=⟨rb⟩
instance:FO aO 26 3:=⟨IH⟩
instance:FO aO 31 30:=⟨qQ⟩
instance:tz aO 147 true 4:=⟨KU⟩
instance:tz aO 148 false 1:=⟨by kernel_rfl⟩
instance:tz aO 150 true 4:=⟨sY⟩
instance:tz aO 153 true 3:=⟨C2⟩
instance:tz aO 26 false 1:=⟨by kernel_rfl⟩
instance:mN aO 147 0 0:=⟨by kernel_rfl⟩
instance:mN aO 147 1 1:=⟨by kernel_rfl⟩
instance:mN aO 147 2 2:=⟨by kernel_rfl⟩
instance:mN aO 147 3 3:=⟨by kernel_rfl⟩
instance:mN aO 150 0 0:=⟨by kernel_rfl⟩
instance:mN aO 150 1 1:=⟨by kernel_rfl⟩
instance:mN aO 150 2 2:=⟨by kernel_rfl⟩
instance:mN aO 150 3 3:=⟨by kernel_rfl⟩
instance:mN aO 84 0 0:=⟨by kernel_rfl⟩
instance:mN aO 84 1 1:=⟨by kernel_rfl⟩
instance:FO aO 148 147:=⟨KK⟩
instance:FO aO 34 150:=⟨za⟩
instance:FO aO 42 9:=⟨II⟩
instance:mN aO 153 0 0:=⟨by kernel_rfl⟩
instance:mN aO 153 1 2:=⟨by kernel_rfl⟩
instance:FO aO 64 153:=⟨IJ⟩
instance:tz aO 137 false 1:=⟨Nv⟩
instance:tz aO 139 true 7:=⟨t8⟩
instance:tz aO 202 true 6:=⟨vN⟩
instance:tz aO 34 false 1:=⟨by kernel_rfl⟩
instance:tz aO 42 false 1:=⟨Gz⟩
instance:mN aO 139 0 0:=⟨by kernel_rfl⟩
instance:mN aO 139 1 1:=⟨by kernel_rfl⟩
instance:mN aO 139 2 4:=⟨by kernel_rfl⟩
instance:mN aO 139 3 5:=⟨by kernel_rfl⟩
instance:mN aO 139 4 6:=⟨by kernel_rfl⟩
instance:mN aO 202 3 4:=⟨DC⟩
instance:mN aO 202 4 5:=⟨DD⟩
instance:FO aO 137 202:=⟨vL⟩
instance:tz aO 220 false 1:=⟨by kernel_rfl⟩
instance:tz aO 225 true 4:=⟨by kernel_rfl⟩
instance:mN aO 202 0 0:=⟨by kernel_rfl⟩
instance:mN aO 202 1 2:=⟨by kernel_rfl⟩
instance:mN aO 202 2 3:=⟨by kernel_rfl⟩
instance:mN aO 223 0 0:=⟨by kernel_rfl⟩
instance:mN aO 223 1 1:=⟨by kernel_rfl⟩
instance:mN aO 223 2 4:=⟨by kernel_rfl⟩
instance:mN aO 225 0 0:=⟨by kernel_rfl⟩
instance:mN aO 225 1 1:=⟨by kernel_rfl⟩
instance:mN aO 225 2 2:=⟨by kernel_rfl⟩
instance:FO aO 253 257:=⟨KL⟩
instance:tz aO 257 true 4:=⟨Fs⟩
instance:mN aO 257 0 0:=⟨by kernel_rfl⟩
instance:mN aO 257 1 2:=⟨by kernel_rfl⟩
instance:tz aO 166 false 1:=⟨by kernel_rfl⟩
instance:tz aO 173 false 1:=⟨Nx⟩
instance:tz aO 43 false 1:=⟨QI⟩
instance:mN aO 180 0 0:=⟨by kernel_rfl⟩
instance:mN aO 180 1 1:=⟨by kernel_rfl⟩
instance:mN aO 180 2 4:=⟨by kernel_rfl⟩
instance:mN aO 180 3 5:=⟨by kernel_rfl⟩
instance:mN aO 180 4 6:=⟨by kernel_rfl⟩
instance:MK aO 3 (.int .i64):=⟨Tryz.underlying3⟩
instance:MK aO 5 (.int .u8):=⟨Tryz.underlying5⟩
instance:MK aO 9 .string:=⟨Tryz.underlying9⟩
instance:MK aO 103 (.int .u64):=⟨Tryz.underlying103⟩
instance:MK aO 187 (.int .u64):=⟨Tryz.underlying187⟩
abbrev pt (b o:Nat):Value:=.pointer (some ⟨b,o,none⟩)
abbrev om (b:Nat) (e:Array MapEntry) (c:Nat):cZ:=.obj b (.map e c)
abbrev TW (T:Nat->Prop) (w:World):Prop:=∀ k,T k->k<w.heap.size
abbrev pR (x:b7):bC:=[.int .i64 x.y,.int .u64 x.z]
abbrev CA (x:ci):bC:=[.int .i64 x.d.k,.string x.d.t,.int .i64 x.a.y,.int .u64 x.a.z]
abbrev bh (x:ai) (v0:Value):bC:=[.int .i64 x.d.k,.string x.d.t,v0,.string x.u,.int .i64 x.j]
abbrev a8 (x:aH):bC:=[.string x.q,.bool x.h]
abbrev cu (x:aV):bC:=[.string x.S,.bool x.h]
abbrev bf (x:ae):bC:=[.int .i64 x.k,.string x.t]
abbrev bx (x:aA) (v0:Value):bC:=[.int .i64 x.d.k,.string x.d.t,.string x.u,v0,.int .i64 x.c,.int .i64 x.l,.int .i64 x.j,.bool x.d1]
abbrev pu (x:be):bC:=[.int .i64 x.d.k,.string x.d.t,.string x.u,.int .i64 x.c]
abbrev bo (x:ar) (v0 v1:Value):bC:=[.int .i64 x.r,v0,v1]
abbrev bp (x:br) (v0:Value):bC:=[v0,.int .i64 x.i1]
abbrev oz (x:eV):bC:=[.int .i64 x.d.k,.string x.d.t,.string x.u]
abbrev NO (x:fh):bC:=[.bool x.t1,.bool x.c1,.int .i64 x.N,.int .i64 x.u1]
abbrev wH (x:aS) (v0:Value):bC:=[.bool x.o,v0,.int .i64 x.p,.int .i64 x.C]
abbrev mG (x:bR) (v0 v1:Value):bC:=[.int .i64 x.d.k,.string x.d.t,.bool x.w,.int .i64 x.i1,v0,v1]
abbrev wI (x:eP) (v0 v1 v2 v3 v4 v5:Value):bC:=[v0,.int .i64 x.b.r,v1,v2,v3,v4,v5]
abbrev F6 (x:dY):bC:=[.int .i64 x.x1.k,.string x.x1.t,.int .i64 x.k1.k,.string x.k1.t]
abbrev MN (x:tD):bC:=[.bool x.a1,.string x.u,.int .i64 x.l1.k,.string x.l1.t]
abbrev LL:=List (ae×(List ae))
abbrev LB:=List (ae×ByteArray)
abbrev LO:=List (ae×Bool)
abbrev LR:=List aA
abbrev LI:=List be
abbrev LK:=List ae
abbrev LU:=List aS
abbrev LV:=bC
abbrev AM:=Array MapEntry
abbrev LN:=List Int
abbrev LY:=List ByteArray
abbrev LF:=List bR
abbrev LC:=List eV
abbrev bq (v:Value) (c:bC):cZ:=.own v 51 an.size c
abbrev ya (v:Value) (c:bC):cZ:=.own v 147 fo.size c
abbrev jL (v:Value) (c:bC):cZ:=.own v 153 bA.size c
abbrev nB (v:Value) (c:bC):cZ:=.own v 257 gt.size c
abbrev ej (v:Value) (c:bC):cZ:=.own v 202 az.size c
abbrev a7 (v:Value) (c:bC):cZ:=.own v 91 ab.size c
abbrev aD (v:Value) (c:bC):cZ:=.own v 30 ac.size c
abbrev qW (v:Value) (c:bC):cZ:=.own v 128 bH.size c
abbrev aJ (v:Value) (c:bC):cZ:=.own v 33 aa.size c
abbrev cx (v:Value) (c:bC):cZ:=.own v 150 aB.size c
abbrev pm (e:Array MapEntry) (x:List (ae×ByteArray)):cD:=qi ac true aL.str false e x
abbrev sP (e:Array MapEntry) (x:List (ae×(List ae))):cD:=qi ac true (aL.slice ac) false e x
abbrev wN (e:Array MapEntry) (x:List (ae×Bool)):cD:=qi ac true aL.bool false e x
abbrev xS (b:Nat) (v:Value) (r:Int) (v1 v2:Value) (m k:Nat):cZ:=.box b [v,.int .i64 r,v1,v2,.map (some m),.map (some k)] 223
abbrev xE (b d:Nat) (r:Int) (v1 v2:Value) (m:Nat) (v3:Value) (e:Int):cZ:=.box b [.pointer (some ⟨d,0,none⟩),.int .i64 r,v1,v2,.map (some m),v3,.int .i64 e] 180
end
section
open Go.RowKit
section
variable {P:Program}
end
end
section
open Go.RowKit
end
end Go.Proofs.YtcpplgcgcbihoaaGreatDoor
section
namespace Go.Proofs
open Go.Shelf
end Go.Proofs
end
namespace Go.Proofs.YtcpplgcgcbihoaaGreatDoor
section
open Go.RowKit
open Go.Lib hiding intOf
open Go.Sort (grow grow_grow alloc_eq_grow)
end
section
set_option maxRecDepth 100000
set_option maxHeartbeats 4000000
open Go.RowKit
variable (T:Nat->Prop) (L:World) (hT:TW T L)
include hT
noncomputable section
def oM:=some (true)
def i6 (e f:LK) (b:Int):Option (Fl (Int) (Fl (Unit) Bool)):=cond (decide (b<(e.length:Int))) ((bG e b).bind fun c=>(bG f b).bind fun d=>cond (!(d.k==c.k&&d.t.toList==c.t.toList)) (some (.out (.out false))) (some (.go (IntKind.i64.wrap (b+1))))) (some (.out (.go ())))
def lG (b c:LK):=cond ((b.length:Int) != (c.length:Int)) (some (false)) ((loop (fun s:Int=>i6 b c s) 0).bind fun r=>Fl.el r (fun s=>oM) (fun y=>some (y)))
theorem y4 (c d:LK) (i j:Value) (x:aG ac T L i c) (z:aG ac T L j d) (y:Bool) (B:lG c d=some y):bc aO No 35 [i,j] L (fun v w'=>v = .bool y):=by
 refine en Tryz.func35 Tryz.ntmps35 hT fun a I=>?_;replace I:=(I.fS (aG.dn x)).fS (aG.dn z);unfold lG at B;refine al I fun a I=>?_;refine ay ?_;refine al I fun a I=>?_;rcases cd B with⟨m,B⟩|⟨m,B⟩
 ·exact fz
 refine al I fun a I=>?_;refine aM (J:=fun a w=>St L No T 26 [] [] [] a w/\oM=some y) ?_ ?_
 ·refine al I fun a I=>?_;obtain⟨M,u,hMo1⟩:=bd B;refine bF _ (fun s a w=>∃ (b:Int),b=s/\St L No T 26 [(1,j),(12,i),(13,am (c.length:Int)),(14,am b)] [] [aQ ac j d,aQ ac i c] a w) u ⟨_,rfl,I.mt [] [0,1]⟩ ?_;rintro s a w G ⟨b,rfl,I⟩ B hf1;have B:i6 c d b=some G:=B;unfold i6 at B;refine al I fun a I=>?_;refine ay ?_;rcases cd B with⟨n,B⟩|⟨n,B⟩
  ·refine al I fun a I=>?_;refine ay ?_;refine al I fun a I=>?_;obtain⟨e,g,B⟩:=bd B;refine wl rfl (bz (R:=ac) I qQ ix rfl rfl 1 rfl g rfl fun A K E o a I=>?_);obtain rfl:=o;refine kA I iA fun D H a w O I=>?_;refine go I fun a w I=>?_;refine ay ?_;refine dr [] I fun w hQ I=>?_;refine gE [0,1] I fun a I=>?_;obtain⟨f,h,B⟩:=bd B;obtain⟨l,r,F,p,q,I⟩:=mh (R:=ac) I qQ ix 1 rfl h;obtain rfl:=p;refine dq 2 I (v:=pt l r) (q rfl rfl) fun a I=>?_;refine gE [3,4] I fun a I=>?_;refine dq 5 I (v:=.bool (!(f.k==e.k&&f.t.toList==e.t.toList))) (AX I rfl rfl) fun a I=>?_;refine eD ?_;exact fz
  exact fz
 rintro a w ⟨I,B⟩;unfold oM at B;exact fz
def dF (b:Bool):=some (b)
def m9 (b e:aA):=cond (b.d.k==e.d.k&&b.d.t.toList==e.d.t.toList) (cond (b.u.toList==e.u.toList) ((lG b.v e.v).bind fun f=>cond f (cond (b.c==e.c) (cond (b.l==e.l) (cond (b.j==e.j) (dF (b.d1==e.d1)) (dF false)) (dF false)) (dF false)) (dF false)) (dF false)) (dF false)
theorem Ag (b c:aA) (p q:Value) (n:aG ac T L p b.v) (o:aG ac T L q c.v) (y:Bool) (B:m9 b c=some y):bc aO No 41 [.agg (bx b p).toArray,.agg (bx c q).toArray] L (fun v w'=>v = .bool y):=by
 refine en Tryz.func41 Tryz.ntmps41 hT fun a I=>?_;replace I:=(I.fS (aG.dn n)).fS (aG.dn o);unfold m9 at B;refine kB I fun r u a w O I=>?_;refine kb I fun s x a w O I=>?_;refine al I fun a I=>?_;refine aM (J:=fun a w=>∃ (e:Bool),St L No T 52 [(4,.bool e)] [] [] a w/\dF e=some y) ?_ ?_
 ·refine al I fun a I=>?_;refine wl rfl (ky (v:=.bool (b.d.k==c.d.k&&b.d.t.toList==c.d.t.toList)) I (Ge I rfl rfl) rfl rfl fun a I=>?_);refine al I fun a I=>?_;rcases cd B with⟨i,B⟩|⟨i,B⟩
  ·refine al I fun a I=>?_;rcases cd B with⟨f,B⟩|⟨f,B⟩
   ·refine al I fun a I=>?_;obtain⟨z,h,B⟩:=bd B;refine wg I rfl rfl rfl f (bL I Ro rfl rfl (y4 _ _ I.dlt b.v c.v _ _ I.g1 I.g0 _ h) fun _ w C a O U=>?_);obtain rfl:=C;have I:=fp U;refine al I fun a I=>?_;rcases cd B with⟨j,B⟩|⟨j,B⟩
    ·refine al I fun a I=>?_;rcases cd B with⟨l,B⟩|⟨l,B⟩
     ·refine al I fun a I=>?_;rcases cd B with⟨m,B⟩|⟨m,B⟩
      ·refine al I fun a I=>?_;rcases cd B with⟨g,B⟩|⟨g,B⟩
       ·refine al I fun a I=>?_;refine qg I g (OI I rfl rfl Tryz.underlying4 (.inl ⟨rfl,rfl⟩)) fun a I=>?_;exact fz
       exact fz
      exact fz
     exact fz
    exact fz
   exact fz
  exact fz
 rintro a w ⟨e,I,B⟩;unfold dF at B;exact fz
def tg:=some (true)
def na (c g:LR) (b:Int):Option (Fl (Int) (Fl (Unit) Bool)):=cond (decide (b<(c.length:Int))) ((bG c b).bind fun d=>(bG g b).bind fun e=>(m9 d e).bind fun f=>cond (!(f)) (some (.out (.out false))) (some (.go (IntKind.i64.wrap (b+1))))) (some (.out (.go ())))
def sv (b c:LR):=cond ((b.length:Int) != (c.length:Int)) (some (false)) ((loop (fun s:Int=>na b c s) 0).bind fun r=>Fl.el r (fun s=>tg) (fun y=>some (y)))
theorem DX (c d:LR) (j k:Value) (z:aG aa T L j c) (A:aG aa T L k d) (y:Bool) (B:sv c d=some y):bc aO No 72 [j,k] L (fun v w'=>v = .bool y):=by
 refine en Tryz.func72 Tryz.ntmps72 hT fun a I=>?_;replace I:=(I.fS (aG.dn z)).fS (aG.dn A);unfold sv at B;refine al I fun a I=>?_;refine ay ?_;refine al I fun a I=>?_;rcases cd B with⟨o,B⟩|⟨o,B⟩
 ·exact fz
 refine al I fun a I=>?_;refine aM (J:=fun a w=>St L No T 27 [] [] [] a w/\tg=some y) ?_ ?_
 ·refine al I fun a I=>?_;obtain⟨S,x,hMo1⟩:=bd B;refine bF _ (fun s a w=>∃ (b:Int),b=s/\St L No T 27 [(1,k),(12,j),(13,am (c.length:Int)),(14,am b)] [] [aQ aa k d,aQ aa j c] a w) x ⟨_,rfl,I.mt [] [0,1]⟩ ?_;rintro s a w H ⟨b,rfl,I⟩ B hf1;have B:na c d b=some H:=B;unfold na at B;refine al I fun a I=>?_;refine ay ?_;rcases cd B with⟨p,B⟩|⟨p,B⟩
  ·refine al I fun a I=>?_;refine ay ?_;refine al I fun a I=>?_;obtain⟨m,e,B⟩:=bd B;refine wl rfl (bz (R:=aa) I rb ow rfl rfl 1 rfl e rfl fun D M F q a I=>?_);obtain⟨P,rfl,h⟩:=q;replace I:=I.fS h;refine kA I ge fun E K a w O I=>?_;refine go I fun a w I=>?_;refine ay ?_;refine dr [] I fun w hQ I=>?_;refine gE [0,1,2] I fun a I=>?_;obtain⟨n,f,B⟩:=bd B;obtain⟨l,u,G,r,t,I⟩:=mh (R:=aa) I rb ow 2 rfl f;obtain⟨Q,rfl,i⟩:=r;replace I:=I.fS i;refine dq 3 I (v:=pt l u) (t rfl rfl) fun a I=>?_;refine gE [4] I fun a I=>?_;obtain⟨N,g,B⟩:=bd B;refine ec 5 I Rq (Ag _ _ I.dlt m n _ _ I.g2 I.g0 _ g) fun _ w C a O U=>?_;obtain rfl:=C;have I:=fp U;refine gE [6] I fun a I=>?_;refine eD ?_;exact fz
  exact fz
 rintro a w ⟨I,B⟩;unfold tg at B;exact fz
def tj:=some (true)
def nb (g h:ar) (f:Int):Option (Fl (Int) (Fl (Unit) Bool)):=cond (decide (f<(g.i.length:Int))) ((bG g.i f).bind fun b=>(bG h.i f).bind fun e=>cond (!(e.d.k==b.d.k&&e.d.t.toList==b.d.t.toList&&e.u.toList==b.u.toList&&e.c==b.c)) (some (.out (.out false))) (some (.go (IntKind.i64.wrap (f+1))))) (some (.out (.go ())))
def sw (b c:ar):=cond (b.r != c.r) (some (false)) (cond ((b.i.length:Int) != (c.i.length:Int)) (some (false)) ((sv b.s c.s).bind fun d=>cond (!(d)) (some (false)) ((loop (fun s:Int=>nb b c s) 0).bind fun r=>Fl.el r (fun s=>tj) (fun y=>some (y)))))
theorem DY (e b:ar) (p S:Value) (q r:Value) (M:aG ab T L p e.i) (N:aG aa T L S e.s) (P:aG ab T L q b.i) (Q:aG aa T L r b.s) (y:Bool) (B:sw e b=some y):bc aO No 19 [.agg (bo e p S).toArray,.agg (bo b q r).toArray] L (fun v w'=>v = .bool y):=by
 refine en Tryz.func19 Tryz.ntmps19 hT fun a I=>?_;replace I:=(((I.fS (aG.dn M)).fS (aG.dn N)).fS (aG.dn P)).fS (aG.dn Q);unfold sw at B;refine kB I fun V a1 a w O I=>?_;refine kb I fun j a2 a w O I=>?_;refine al I fun a I=>?_;refine ay ?_;refine dN ?_;refine al I fun a I=>?_;rcases cd B with⟨z,B⟩|⟨z,B⟩
 ·exact fz
 refine al I fun a I=>?_;rcases cd B with⟨l,B⟩|⟨l,B⟩
 ·exact fz
 refine al I fun a I=>?_;obtain⟨a5,o,B⟩:=bd B;refine wg I rfl rfl rfl l (bL I RF rfl rfl (DX _ _ I.dlt e.s b.s _ _ I.g2 I.g0 _ o) fun _ w C a O U=>?_);obtain rfl:=C;have I:=fp U;refine al I fun a I=>?_;rcases cd B with⟨A,B⟩|⟨A,B⟩
 ·exact fz
 refine al I fun a I=>?_;refine aM (J:=fun a w=>St L No T 45 [] [] [] a w/\tj=some y) ?_ ?_
 ·refine al I fun a I=>?_;obtain⟨r1,K,hMo1⟩:=bd B;refine bF _ (fun s a w=>∃ (h:Int),h=s/\St L No T 45 [(3,pt j 0),(30,p),(31,am (e.i.length:Int)),(32,am h)] [.box j (bo b q r) 25] [aQ ab p e.i,aQ ab q b.i,aQ aa r b.s] a w) K ⟨_,rfl,I.mt [0] [3,1,0]⟩ ?_;rintro s a w f1 ⟨h,rfl,I⟩ B hf1;have B:nb e b h=some f1:=B;unfold nb at B;refine al I fun a I=>?_;refine ay ?_;rcases cd B with⟨D,B⟩|⟨D,B⟩
  ·refine al I fun a I=>?_;refine ay ?_;refine al I fun a I=>?_;obtain⟨f,m,B⟩:=bd B;refine wl rfl (bz (R:=ab) I Cu BJ rfl rfl 0 rfl m rfl fun W a4 Y E a I=>?_);obtain rfl:=E;refine kA I wE fun X a3 a w O I=>?_;refine go I fun a w I=>?_;refine ay ?_;refine dr [] I fun w hQ I=>?_;refine gE [0,1,2] I fun a I=>?_;obtain⟨g,n,B⟩:=bd B;obtain⟨x,H,Z,F,G,I⟩:=mh (R:=ab) I Cu BJ 2 rfl n;obtain rfl:=F;refine dq 3 I (v:=pt x H) (G rfl rfl) fun a I=>?_;refine gE [4,5] I fun a I=>?_;refine dq 6 I (v:=.bool (!(g.d.k==f.d.k&&g.d.t.toList==f.d.t.toList&&g.u.toList==f.u.toList&&g.c==f.c))) (P7 I rfl rfl) fun a I=>?_;refine eD ?_;exact fz
  exact fz
 rintro a w ⟨I,B⟩;unfold tj at B;exact fz
def nU (b:Int):=cond (decide (b<0)) (some ((ae.mk 0 cg))) (cond (decide ((99:Int)<b)) (some ((ae.mk 0 cg))) ((xW b).bind fun c=>some ((ae.mk 30 c))))
theorem ut (hLv:fi T L) (b:Int) (y:ae) (B:nU b=some y):bc aO No 91 [am b] L (fun v w'=>v = .agg (bf y).toArray):=by
 refine en Tryz.func91 Tryz.ntmps91 hT fun a I=>?_;replace I:=I.fact cc (fi.dn hLv);unfold nU at B;refine kA I iA fun g h a w O I=>?_;refine al I fun a I=>?_;refine ay ?_;refine dN ?_;refine al I fun a I=>?_;rcases cd B with⟨e,B⟩|⟨e,B⟩
 ·refine al I fun a I=>?_;refine qy I (bk (ps:=[]) I DV iA rfl (us:=[]) trivial (ws:=[am 0,aT cg]) rfl) fun a I=>?_;refine go I fun a w I=>?_;cases B
  refine aE I rfl (rC 0 I) ?_;exact rfl
 refine al I fun a I=>?_;rcases cd B with⟨f,B⟩|⟨f,B⟩
 ·refine al I fun a I=>?_;refine qy I (bk (ps:=[]) I DV iA rfl (us:=[]) trivial (ws:=[am 0,aT cg]) rfl) fun a I=>?_;refine go I fun a w I=>?_;cases B
  refine aE I rfl (rC 0 I) ?_;exact rfl
 refine al I fun a I=>?_;obtain⟨c,d,B⟩:=bd B;refine kE I GW (An _ _ I.dlt I.g0 b _ d) fun w a I=>?_;refine qy I (bk (ps:=[(0,.const (am 30)),(1,.tmp 11)]) I DV iA rfl (us:=[[am 30],[aT c]]) ⟨rfl,⟨rfl,trivial⟩⟩ (ws:=[am 30,aT c]) rfl) fun a I=>?_;refine go I fun a w I=>?_;cases B
 refine aE I rfl (rC 0 I) ?_;exact rfl
def yW (b:LN):=some ((br.mk b 0))
theorem Fc (d:LN) (b:Value) (g:aG (aL.int .i64) T L b d) (y:br) (B:yW d=some y):bc aO No 12 [b] L (fun v w'=>∃ (c:Nat) (f:Value),v=pt c 0/\L.heap.size<=c/\w'.heap[c]? = some (.cells (bp y f).toArray 84 (0,0))/\aG (aL.int .i64) (dT T [.box c (bp y f) 84]) w' f y.L):=by
 refine en Tryz.func12 Tryz.ntmps12 hT fun a I=>?_;replace I:=I.fS (aG.dn g);unfold yW at B;refine al I fun a I=>?_;refine qy I (bk (ps:=[(0,.tmp 3)]) I R7 Sg rfl (us:=[[b]]) ⟨(lh (aG.one (I.g0:aG (aL.int .i64) _ _ _ _))),trivial⟩ (ws:=[b,am 0]) rfl) fun a I=>?_;refine kb I fun e h a w O I=>?_;refine al I fun a I=>?_;cases B
 refine aE I rfl (ap I rfl aC) ?_;exact⟨e,b,rfl,I.boxNew 0 rfl,I.zb 0 rfl,(aG.up ⟨.inr (aK (i:=0) rfl),trivial⟩ I.g0)⟩
def oG (c b:Int):=cond (decide (b<1)) (some (0)) (gd (b != 0) <| gd (b != 0) <| some (Int.tmod (IntKind.i64.wrap ((Int.tmod c b)+b)) b))
theorem uo (c b y:Int) (B:oG c b=some y):bc aO No 26 [am c,am b] L (fun v w'=>v=am y):=by
 refine en Tryz.func26 Tryz.ntmps26 hT fun a I=>?_;unfold oG at B;refine al I fun a I=>?_;refine ay ?_;refine al I fun a I=>?_;rcases cd B with⟨d,B⟩|⟨d,B⟩
 ·exact fz
 refine al I fun a I=>?_;obtain⟨e,B⟩:=aU B;refine qy I (C6 I rfl rfl (bne_iff_ne.1 e)) fun a I=>?_;refine al I fun a I=>?_;obtain⟨f,B⟩:=aU B;refine qy I (C6 I rfl rfl (bne_iff_ne.1 f)) fun a I=>?_;exact fz
def co (b:br) (e:Int):=cond (decide ((b.L.length:Int)<=b.i1)) (some ((0,b))) ((bG b.L (IntKind.i64.wrap ((IntKind.i64.wrap (b.i1+1))-1))).bind fun c=>(oG c e).bind fun d=>some ((d,(br.mk b.L (IntKind.i64.wrap (b.i1+1))))))
theorem bK (d:br) (f:Int) (e:Value) (b:Nat) (s:L.heap[b]? = some (.cells (bp d e).toArray 84 (0,0))) (q:¬ T b) (t:aG (aL.int .i64) (dT T [.box b (bp d e) 84]) L e d.L) (y:Int×br) (B:co d f=some y):bc aO (fun k=>k=b) 73 [pt b 0,am f] L (fun v w'=>∃ (j:Value),v=am y.1/\w'.heap[b]? = some (.cells (bp y.2 j).toArray 84 (0,0))/\aG (aL.int .i64) (dT T [.box b (bp y.2 j) 84]) w' j y.2.L/\e=j):=by
 refine nR (c:=_) Tryz.func73 rfl T 35 Tryz.ntmps73 hT rfl s q fun a I=>?_;replace I:=I.fS t;unfold co at B;refine al I fun a I=>?_;refine ay ?_;refine ay ?_;refine dr [] I fun w hQ I=>?_;refine gE [0,1,2,3,4,5,6,7,8,9] I fun a I=>?_;refine eD ?_;refine al I fun a I=>?_;rcases cd B with⟨n,B⟩|⟨n,B⟩
 ·refine al I fun a I=>?_;cases B
  refine aE I rfl (ap I rfl aC) ?_;exact⟨e,rfl,I.zb 0 rfl,(aG.up ⟨.inr (aK (i:=0) rfl),trivial⟩ I.g0),rfl⟩
 refine go I fun a w I=>?_;refine ay ?_;refine dr [] I fun w hQ I=>?_;refine gE [0,1,2,3,4,5,6,7,8] I fun a I=>?_;obtain⟨m,g,B⟩:=bd B;obtain⟨l,r,u,o,p,I⟩:=mh (R:=(aL.int .i64)) I IH Ea 0 rfl g;obtain rfl:=o;refine dq 9 I (v:=pt l r) (p rfl rfl) fun a I=>?_;refine gE [10,11] I fun a I=>?_;obtain⟨x,h,B⟩:=bd B;refine ec 12 I Lw (uo _ _ I.dlt m f _ h) fun _ w C a O U=>?_;obtain rfl:=C;have I:=fp U;refine gE [13] I fun a I=>?_;refine eD ?_;refine al I fun a I=>?_;cases B
 refine aE I rfl (ap I rfl aC) ?_;exact⟨e,rfl,I.zb 0 rfl,(aG.up ⟨.inr (aK (i:=0) rfl),trivial⟩ I.g1),rfl⟩
def tJ (e:br) (c:LY):=(co e (c.length:Int)).bind fun b=>(bG c b.1).bind fun d=>some ((d,(br.mk b.2.L b.2.i1)))
theorem EL (b:br) (h:LY) (f t:Value) (d:Nat) (q:L.heap[d]? = some (.cells (bp b f).toArray 84 (0,0))) (o:¬ T d) (r:aG (aL.int .i64) (dT T [.box d (bp b f) 84]) L f b.L) (s:aG aL.str (dT T [.box d (bp b f) 84]) L t h) (y:ByteArray×br) (B:tJ b h=some y):bc aO (fun k=>k=d) 153 [pt d 0,t] L (fun v w'=>∃ (m:Value),v=aT y.1/\w'.heap[d]? = some (.cells (bp y.2 m).toArray 84 (0,0))/\aG (aL.int .i64) (dT T [.box d (bp y.2 m) 84]) w' m y.2.L/\f=m):=by
 refine nR (c:=_) Tryz.func153 rfl T 12 Tryz.ntmps153 hT rfl q o fun a I=>?_;replace I:=(I.fS r).fS s;unfold tJ at B;refine al I fun a I=>?_;obtain⟨p,l,B⟩:=bd B;refine wl rfl (bV I nP rfl rfl 0 rfl (bK _ _ (I.drop 0).dlt b (h.length:Int) _ _ (I.zb 0 rfl) (I.zi 0 rfl) (aG.lent (i:=0) rfl I.g1) _ l) fun _ w C O=>?_);obtain⟨D,he,hrow,g,e⟩:=C;obtain rfl:=he.symm;subst e;refine⟨(bp p.2 f),hrow,fun a I=>?_⟩;replace I:=I.fS (aG.back (i:=0) rfl g);obtain⟨z,j,B⟩:=bd B;refine wl rfl (bz (R:=aL.str) I II Ld rfl rfl 1 rfl j rfl fun u A x n a I=>?_);obtain rfl:=n;refine al I fun a I=>?_;cases B
 refine aE I rfl (ap I rfl aC) ?_;exact⟨f,rfl,I.zb 0 rfl,(aG.up ⟨.inr (aK (i:=0) rfl),trivial⟩ I.g1),rfl⟩
def qv (e:br):=(co e 4).bind fun b=>(nU b.1).bind fun d=>(tJ (br.mk b.2.L b.2.i1) ([(ByteArray.mk #[48]),(ByteArray.mk #[49]),(ByteArray.mk #[50]),(ByteArray.mk #[51]),(ByteArray.mk #[55]),(ByteArray.mk #[49,48,48]),cg,(ByteArray.mk #[120]),(ByteArray.mk #[49,54]),(ByteArray.mk #[49])])).bind fun c=>some (((eV.mk d c.1),(br.mk c.2.L c.2.i1)))
theorem Ca (b:br) (f:Value) (e:Nat) (u:L.heap[e]? = some (.cells (bp b f).toArray 84 (0,0))) (s:¬ T e) (z:aG (aL.int .i64) (dT T [.box e (bp b f) 84]) L f b.L) (hLv:fi (dT T [.box e (bp b f) 84]) L) (y:eV×br) (B:qv b=some y):bc aO (fun k=>k=e) 100 [pt e 0] L (fun v w'=>∃ (r:Value),v = .agg (oz y.1).toArray/\w'.heap[e]? = some (.cells (bp y.2 r).toArray 84 (0,0))/\aG (aL.int .i64) (dT T [.box e (bp y.2 r) 84]) w' r y.2.L/\f=r):=by
 refine nR (c:=_) Tryz.func100 rfl T 10 Tryz.ntmps100 hT rfl u s fun a I=>?_;replace I:=(I.fact cc hLv).fS z;unfold qv at B;refine kA I BU fun A E a w O I=>?_;refine al I fun a I=>?_;obtain⟨d,o,B⟩:=bd B;refine wl rfl (bV I nP rfl rfl 1 rfl (bK _ _ (I.drop 1).dlt b 4 _ _ (I.zb 1 rfl) (I.zi 1 rfl) (aG.lent (i:=1) rfl I.g0) _ o) fun _ w C O=>?_);obtain⟨F,he,hrow,m,g⟩:=C;obtain rfl:=he.symm;subst g;refine⟨(bp d.2 f),hrow,fun a I=>?_⟩;replace I:=I.fS (aG.back (i:=1) rfl m);obtain⟨j,p,B⟩:=bd B;refine kF I NX (ut _ _ I.dlt I.g2 d.1 _ p) fun w a I=>?_;refine wl rfl (ba (ps:=[(0,.const (.string ⟨#[48]⟩)),(1,.const (.string ⟨#[49]⟩)),(2,.const (.string ⟨#[50]⟩)),(3,.const (.string ⟨#[51]⟩)),(4,.const (.string ⟨#[55]⟩)),(5,.const (.string ⟨#[49,48,48]⟩)),(6,.const (.string ⟨#[]⟩)),(7,.const (.string ⟨#[120]⟩)),(8,.const (.string ⟨#[49,54]⟩)),(9,.const (.string ⟨#[49]⟩))]) I zY OQ (zl:=[aT cg,aT cg,aT cg,aT cg,aT cg,aT cg,aT cg,aT cg,aT cg,aT cg]) (by kernel_rfl) rfl (us:=[[aT (ByteArray.mk #[48])],[aT (ByteArray.mk #[49])],[aT (ByteArray.mk #[50])],[aT (ByteArray.mk #[51])],[aT (ByteArray.mk #[55])],[aT (ByteArray.mk #[49,48,48])],[aT cg],[aT (ByteArray.mk #[120])],[aT (ByteArray.mk #[49,54])],[aT (ByteArray.mk #[49])]]) ⟨rfl,⟨rfl,⟨rfl,⟨rfl,⟨rfl,⟨rfl,⟨rfl,⟨rfl,⟨rfl,⟨rfl,trivial⟩⟩⟩⟩⟩⟩⟩⟩⟩⟩ (ws:=[aT (ByteArray.mk #[48]),aT (ByteArray.mk #[49]),aT (ByteArray.mk #[50]),aT (ByteArray.mk #[51]),aT (ByteArray.mk #[55]),aT (ByteArray.mk #[49,48,48]),aT cg,aT (ByteArray.mk #[120]),aT (ByteArray.mk #[49,54]),aT (ByteArray.mk #[49])]) rfl rfl rfl rfl fun D a w O I=>?_);replace I:=(I.lit (R:=aL.str) (us:=[aT (ByteArray.mk #[48]),aT (ByteArray.mk #[49]),aT (ByteArray.mk #[50]),aT (ByteArray.mk #[51]),aT (ByteArray.mk #[55]),aT (ByteArray.mk #[49,48,48]),aT cg,aT (ByteArray.mk #[120]),aT (ByteArray.mk #[49,54]),aT (ByteArray.mk #[49])]) (xs:=[(ByteArray.mk #[48]),(ByteArray.mk #[49]),(ByteArray.mk #[50]),(ByteArray.mk #[51]),(ByteArray.mk #[55]),(ByteArray.mk #[49,48,48]),cg,(ByteArray.mk #[120]),(ByteArray.mk #[49,54]),(ByteArray.mk #[49])]) 0 rfl (by decide) ((aF (R:=aL.str) (x:=(ByteArray.mk #[48])) rfl).append ((aF (R:=aL.str) (x:=(ByteArray.mk #[49])) rfl).append ((aF (R:=aL.str) (x:=(ByteArray.mk #[50])) rfl).append ((aF (R:=aL.str) (x:=(ByteArray.mk #[51])) rfl).append ((aF (R:=aL.str) (x:=(ByteArray.mk #[55])) rfl).append ((aF (R:=aL.str) (x:=(ByteArray.mk #[49,48,48])) rfl).append ((aF (R:=aL.str) (x:=cg) rfl).append ((aF (R:=aL.str) (x:=(ByteArray.mk #[120])) rfl).append ((aF (R:=aL.str) (x:=(ByteArray.mk #[49,54])) rfl).append (aF (R:=aL.str) (x:=(ByteArray.mk #[49])) rfl)))))))))) rfl rfl).zf (R:=aL.str) 0 rfl 0 rfl;obtain⟨l,q,B⟩:=bd B;refine wl rfl (bV I Po rfl rfl 1 rfl (EL _ _ (I.drop 1).dlt (br.mk d.2.L d.2.i1) ([(ByteArray.mk #[48]),(ByteArray.mk #[49]),(ByteArray.mk #[50]),(ByteArray.mk #[51]),(ByteArray.mk #[55]),(ByteArray.mk #[49,48,48]),cg,(ByteArray.mk #[120]),(ByteArray.mk #[49,54]),(ByteArray.mk #[49])]) _ _ _ (I.zb 1 rfl) (I.zi 1 rfl) (aG.lent (i:=1) rfl I.g2) (aG.lent (i:=1) rfl I.g0) _ q) fun _ w C O=>?_);obtain⟨G,he,hrow,n,h⟩:=C;obtain rfl:=he.symm;subst h;refine⟨(bp l.2 f),hrow,fun a I=>?_⟩;replace I:=I.fS (aG.back (i:=1) rfl n);refine qy I (bk (ps:=[(0,.tmp 5),(1,.tmp 8)]) I Qq BU rfl (us:=[(bf j),[aT l.1]]) ⟨rfl,⟨rfl,trivial⟩⟩ (ws:=[am j.k,aT j.t,aT l.1]) rfl) fun a I=>?_;refine go I fun a w I=>?_;cases B
 refine aE I rfl (rC 0 I) ?_;exact⟨f,rfl,I.zb 1 rfl,(aG.up ⟨.inr (aK (i:=1) rfl),trivial⟩ I.g0),rfl⟩
def ny (d:LC) (b:LN) (c:Int):=some ((d,(br.mk b c)))
def nz (c:LC) (g:Int) (e:LN) (f:Int):Option (Fl (LC×Int×LN×Int) (LC×LN×Int)):=cond (decide ((0:Int)<g)) ((qv (br.mk e f)).bind fun b=>gd (bW (c.length+([(eV.mk (ae.mk b.1.d.k b.1.d.t) b.1.u)]).length)) <| some (.go ((c++([(eV.mk (ae.mk b.1.d.k b.1.d.t) b.1.u)])),IntKind.i64.wrap (g-1),b.2.L,b.2.i1))) (some (.out (c,e,f)))
def kl (d:br) (c:Int):=(co d (IntKind.i64.wrap (c+1))).bind fun b=>(loop (fun s:LC×Int×LN×Int=>nz s.1 s.2.1 s.2.2.1 s.2.2.2) (([]:List eV),b.1,b.2.L,b.2.i1)).bind fun r=>ny r.1 r.2.1 r.2.2
theorem sj (l:br) (o:Int) (j:Value) (e:Nat) (X:L.heap[e]? = some (.cells (bp l j).toArray 84 (0,0))) (V:¬ T e) (Z:aG (aL.int .i64) (dT T [.box e (bp l j) 84]) L j l.L) (hLv:fi (dT T [.box e (bp l j) 84]) L) (y:LC×br) (B:kl l o=some y):bc aO (fun k=>k=e) 30 [pt e 0,am o] L (fun v w'=>∃ (P:Value) (sO:bC) (K:Value),v=P/\j9 bA T L w' [jL P sO,.box e (bp y.2 K) 84] 153 P sO y.1/\w'.heap[e]? = some (.cells (bp y.2 K).toArray 84 (0,0))/\aG (aL.int .i64) (dT T [jL P sO,.box e (bp y.2 K) 84]) w' K y.2.L/\j=K):=by
 refine nR (c:=_) Tryz.func30 rfl T 21 Tryz.ntmps30 hT rfl X V fun a I=>?_;replace I:=(I.fact cc hLv).fS Z;unfold kl at B;refine al I fun a I=>?_;refine aM (J:=fun a w=>∃ (E:LC) (A:LN) (D:Int) (p:Value) (m:LV),St L (fun k=>k=e) T 21 [(5,p)] [jL p m,.box e [j,am D] 84] [ao bA m E,aQ (aL.int .i64) j A,cc] a w/\ny E A D=some y) ?_ ?_
 ·refine al I fun a I=>?_;obtain⟨W,N,B⟩:=bd B;refine wl rfl (bV I nP rfl rfl 0 rfl (bK _ _ (I.drop 0).dlt l (IntKind.i64.wrap (o+1)) _ _ (I.zb 0 rfl) (I.zi 0 rfl) (aG.lent (i:=0) rfl I.g0) _ N) fun _ w C O=>?_);obtain⟨a3,he,hrow,G,q⟩:=C;obtain rfl:=he.symm;subst q;refine⟨(bp W.2 j),hrow,fun a I=>?_⟩;replace I:=I.fS (aG.back (i:=0) rfl G);refine al I fun a I=>?_;replace I:=I.zn bA 153 (by decide);obtain⟨r1,Y,hMo1⟩:=bd B;refine bF _ (fun s a w=>∃ (h:LC) (n:Int) (f:LN) (g:Int) (F:Value) (z:LV),(h,n,f,g)=s/\St L (fun k=>k=e) T 21 [(0,pt e 0),(5,F),(6,am n)] [jL F z,.box e [j,am g] 84] [ao bA z h,aQ (aL.int .i64) j f,cc] a w) Y ⟨_,_,_,_,_,_,rfl,I.mt [0,1] [0,1,3]⟩ ?_;rintro s a w f1 ⟨h,n,f,g,F,z,rfl,I⟩ B hf1;have B:nz h n f g=some f1:=B;unfold nz at B;refine ay ?_;refine al I fun a I=>?_;rcases cd B with⟨Q,B⟩|⟨Q,B⟩
  ·refine al I fun a I=>?_;refine ay ?_;refine al I fun a I=>?_;obtain⟨b,M,B⟩:=bd B;refine wl rfl (bV I O4 rfl rfl 1 rfl (Ca _ _ (I.drop 1).dlt (br.mk f g) _ _ (I.zb 1 rfl) (I.zi 1 rfl) (aG.lent (i:=1) rfl I.g1) (cc.keep I.g2 (aj _ _) (fun k O=>.inl ((pn (i:=1) rfl k).1 O))) _ M) fun _ w C O=>?_);obtain⟨a4,he,hrow,H,r⟩:=C;obtain rfl:=he.symm;subst r;refine⟨(bp b.2 j),hrow,fun a I=>?_⟩;replace I:=I.fS (aG.back (i:=1) rfl H);refine wl rfl (ba (ps:=[(0,.tmp 17)]) I P5 BU (zl:=[am 0,aT cg,aT cg]) (by kernel_rfl) rfl (us:=[(oz b.1)]) ⟨rfl,trivial⟩ (ws:=(oz b.1)) rfl rfl rfl rfl fun a0 a w O I=>?_);replace I:=(I.lit (R:=bA) (us:=(oz b.1)) (xs:=[(eV.mk (ae.mk b.1.d.k b.1.d.t) b.1.u)]) 0 rfl (by decide) (aF (R:=bA) (x:=(eV.mk (ae.mk b.1.d.k b.1.d.t) b.1.u)) rfl) rfl rfl).zf (R:=bA) 0 rfl 0 rfl;obtain⟨S,B⟩:=aU B;refine wl rfl (bJ (R:=bA) (xs:=h) (ys:=[(eV.mk (ae.mk b.1.d.k b.1.d.t) b.1.u)]) I P5 (by decide) (by decide) rfl rfl 0 rfl 3 rfl 0 rfl S rfl fun a5 a1 a w O I=>?_);refine al I fun a I=>?_;exact fin
  refine al I fun a I=>?_;cases B
  have hr:=hf1 _ rfl;subst hr;have B:ny h f g=some y:=hMo1;exact fin
 rintro a w ⟨E,A,D,p,m,I,B⟩;unfold ny at B;refine al I fun a I=>?_;cases B
 refine aE I rfl (ap I rfl aC) ?_;exact⟨p,m,j,rfl,I.zm ⟨.inr (aK (i:=0) rfl),⟨.inr (aK (i:=1) rfl),trivial⟩⟩ 0 rfl 0 rfl 1 rfl (by decide),I.zb 1 rfl,(aG.up ⟨.inr (aK (i:=0) rfl),⟨.inr (aK (i:=1) rfl),trivial⟩⟩ I.g1),rfl⟩
def lH (b c:Int):=some ((b,c))
def fX (c:LU) (f b:Int):Option (Fl (Int) (Int)):=(bG c f).bind fun d=>cond d.o (cond (decide (b<(c.length:Int))) ((bG c b).bind fun e=>cond e.o (some (.go (IntKind.i64.wrap (b+1)))) (some (.out b))) (some (.out b))) (some (.out b))
def lI (b:LU) (c d:Int):=(loop (fun s:Int=>fX b c s) (IntKind.i64.wrap (c+1))).bind fun r=>lH d r
def fY (c:LU) (f b:Int):Option (Fl (Int) (Int)):=(bG c f).bind fun d=>cond d.o (cond (decide ((0:Int)<b)) ((bG c (IntKind.i64.wrap (b-1))).bind fun e=>cond e.o (some (.go (IntKind.i64.wrap (b-1)))) (some (.out b))) (some (.out b))) (some (.out b))
def n8 (b:LU) (c:Int):=cond (decide (c<0)) (some ((0,0))) (cond (decide ((b.length:Int)<=c)) (some ((0,0))) ((loop (fun s:Int=>fY b c s) c).bind fun r=>lI b c r))
theorem wO (b:LU) (c:Int) (g:Value) (K:aG aB T L g b) (y:Int×Int) (B:n8 b c=some y):bc aO No 121 [g,am c] L (fun v w'=>v = .tuple #[am y.1,am y.2]):=by
 refine en Tryz.func121 Tryz.ntmps121 hT fun a I=>?_;replace I:=I.fS (aG.dn K);unfold n8 at B;refine al I fun a I=>?_;refine ay ?_;refine dN ?_;refine al I fun a I=>?_;rcases cd B with⟨x,B⟩|⟨x,B⟩
 ·refine al I fun a I=>?_;cases B
  refine aE I Tryz.results121 (ap I rfl (ap I rfl aC)) ?_;exact rfl
 refine al I fun a I=>?_;rcases cd B with⟨z,B⟩|⟨z,B⟩
 ·refine al I fun a I=>?_;cases B
  refine aE I Tryz.results121 (ap I rfl (ap I rfl aC)) ?_;exact rfl
 refine al I fun a I=>?_;refine aM (J:=fun a w=>∃ (d:Int),St L No T 60 [(0,g),(1,am c),(6,am d),(7,am (IntKind.i64.wrap (c+1)))] [] [aQ aB g b] a w/\lI b c d=some y) ?_ ?_
 ·refine al I fun a I=>?_;obtain⟨r1,k,hMo1⟩:=bd B;refine bF _ (fun s a w=>∃ (e:Int),e=s/\St L No T 60 [(0,g),(1,am c),(6,am e),(7,am (IntKind.i64.wrap (c+1)))] [] [aQ aB g b] a w) k ⟨_,rfl,I.mt [] [0]⟩ ?_;rintro s a w u ⟨e,rfl,I⟩ B hf1;have B:fY b c e=some u:=B;unfold fY at B;refine ay ?_;refine dN ?_;refine al I fun a I=>?_;obtain⟨a0,n,B⟩:=bd B;refine wl rfl (bz (R:=aB) I za sY rfl rfl 0 rfl n rfl fun M a2 S A a I=>?_);obtain⟨af,rfl,p⟩:=A;replace I:=I.fS p;refine al I fun a I=>?_;rcases cd B with⟨D,B⟩|⟨D,B⟩
  ·refine al I fun a I=>?_;rcases cd B with⟨i,B⟩|⟨i,B⟩
   ·refine al I fun a I=>?_;obtain⟨a1,o,B⟩:=bd B;refine wg I rfl rfl rfl i (bz (R:=aB) I za sY rfl rfl 2 rfl o rfl fun N a3 V E a I=>?_);obtain⟨ag,rfl,q⟩:=E;replace I:=I.fS q;exact fz
   exact fz
  exact fz
 rintro a w ⟨d,I,B⟩;unfold lI at B;refine aM (J:=fun a w=>∃ (h:Int),St L No T 60 [(6,am d),(7,am h)] [] [] a w/\lH d h=some y) ?_ ?_
 ·refine al I fun a I=>?_;obtain⟨r1,k,hMo1⟩:=bd B;refine bF _ (fun s a w=>∃ (f:Int),f=s/\St L No T 60 [(0,g),(1,am c),(6,am d),(7,am f)] [] [aQ aB g b] a w) k ⟨_,rfl,I.mt [] [0]⟩ ?_;rintro s a w u ⟨f,rfl,I⟩ B hf1;have B:fX b c f=some u:=B;unfold fX at B;refine ay ?_;refine dN ?_;refine al I fun a I=>?_;obtain⟨Y,l,B⟩:=bd B;refine wl rfl (bz (R:=aB) I za sY rfl rfl 0 rfl l rfl fun P a4 W F a I=>?_);obtain⟨ak,rfl,r⟩:=F;replace I:=I.fS r;refine al I fun a I=>?_;rcases cd B with⟨G,B⟩|⟨G,B⟩
  ·refine al I fun a I=>?_;rcases cd B with⟨j,B⟩|⟨j,B⟩
   ·refine al I fun a I=>?_;obtain⟨Z,m,B⟩:=bd B;refine wg I rfl rfl rfl j (bz (R:=aB) I za sY rfl rfl 2 rfl m rfl fun Q a5 X H a I=>?_);obtain⟨av,rfl,t⟩:=H;replace I:=I.fS t;exact fz
   exact fz
  exact fz
 rintro a w ⟨h,I,B⟩;unfold lH at B;refine al I fun a I=>?_;cases B
 refine aE I Tryz.results121 (ap I rfl (ap I rfl aC)) ?_;exact rfl
def m4 (d:LU) (b:LN) (c:Int):=some ((d,(br.mk b c)))
def pZ (d:Int) (e:LU) (b:LN) (c:Int):Option (Fl (LU×Int×LN×Int) (LU×LN×Int)):=some (.go (e,IntKind.i64.wrap (d+1),b,c))
def m5 (c:LU) (b:Int) (f:Bool) (g h:Int) (d:LN) (e:Int) (i:(List fh)):=(bG c b).bind fun j=>pZ b (c.set (Int.toNat b) (aS.mk f i g h)) d e
def p8 (d:Int) (b:LN) (c:Int) (e:(List fh)):Option (Fl (Int×LN×Int×(List fh)) (LN×Int×(List fh))):=some (.go (IntKind.i64.wrap (d-1),b,c,e))
def kY (i:Int) (b:(List fh)) (c:Bool) (d:Int) (g:LN) (h:Int) (e:Bool) (f:Int):=gd (bW (b.length+([(fh.mk c e d f)]).length)) <| p8 i g h (b++([(fh.mk c e d f)]))
def jm (e:Int) (f:(List fh)) (g:Bool) (j h:Int) (i:Bool) (c:LN) (d:Int):=cond i ((co (br.mk c d) j).bind fun b=>kY e f g h b.2.L b.2.i1 true b.1) (kY e f g h c d false 0)
def kZ (j:Bool) (e:Int) (b:(List fh)) (h:Bool) (f:Int) (c:LN) (d i:Int):=cond (!(j)) (cond (decide ((0:Int)<(b.length:Int))) ((co (br.mk c d) 3).bind fun g=>jm e b h f i (g.1==1) g.2.L g.2.i1) (jm e b h f i false c d)) (jm e b h f i false c d)
def k6 (g:Bool) (f:Int) (h:(List fh)) (i:Bool) (b:Int) (k:(Int×br)) (j:Bool) (d:LN) (e:Int):=cond j ((co (br.mk d e) (min b 3)).bind fun c=>kZ g f h i b c.2.L c.2.i1 (IntKind.i64.wrap ((IntKind.i64.wrap (b-1))-c.1))) (kZ g f h i b d e k.1)
def k7 (g:Bool) (f:Int) (h:(List fh)) (i:LN) (j:Int) (e:Bool) (c:Int):=(co (br.mk i j) c).bind fun b=>cond (!(e)) ((co (br.mk b.2.L b.2.i1) 2).bind fun d=>k6 g f h e c b (d.1==0) d.2.L d.2.i1) (k6 g f h e c b false b.2.L b.2.i1)
def jG (h:Int) (f:Bool) (e:Int) (g:(List fh)) (c:LN) (d:Int) (b:Bool):=cond b (k7 f e g c d b 4) (k7 f e g c d b h)
def jJ (c:Int) (h:Bool) (d:Int) (f:LN) (g:Int) (e:(List fh)):=cond (decide ((0:Int)<d)) ((co (br.mk f g) 3).bind fun b=>cond (b.1==0) (jG c h d e b.2.L b.2.i1 true) (jG c h d e b.2.L b.2.i1 (c==0))) (some (.out (f,g,e)))
def jH (h:LU) (g d:Int) (c:Bool) (e:LN) (f i j:Int):=(co (br.mk e f) 4).bind fun b=>(loop (fun s:Int×LN×Int×(List fh)=>jJ d c s.1 s.2.1 s.2.2.1 s.2.2.2) (b.1,b.2.L,b.2.i1,([]:List fh))).bind fun r=>m5 h g c i j r.1 r.2.1 r.2.2
def oH (h:LU) (g d:Int) (e:LN) (f:Int) (b:Bool) (j k:Int):=cond b ((co (br.mk e f) 6).bind fun c=>(bG ([0,1,2,4,8,16]) c.1).bind fun i=>jH h g d b c.2.L c.2.i1 5 i) (jH h g d b e f j k)
def jI (e:LU) (d:Int) (g:LN) (h f:Int):=(bG e d).bind fun i=>(co (br.mk g h) 4).bind fun b=>(co (br.mk b.2.L b.2.i1) 6).bind fun c=>oH e d f c.2.L c.2.i1 i.o (IntKind.i64.wrap (1+b.1)) c.1
def jK (h c:LU) (b:Int) (d:LN) (e:Int):=cond (decide (b<(h.length:Int))) ((n8 c b).bind fun f=>(bG c b).bind fun g=>cond (!(g.o)) (jI c b d e f.1) (jI c b d e f.2)) (some (.out (c,d,e)))
def lC (b:LU) (c:LN) (d:Int):=(loop (fun s:LU×Int×LN×Int=>jK b s.1 s.2.1 s.2.2.1 s.2.2.2) (b,0,c,d)).bind fun r=>m4 r.1 r.2.1 r.2.2
def oI (c:LU) (f:Int) (d:LN) (e:Int):Option (Fl (LU×Int×LN×Int) (LU×LN×Int)):=cond (decide ((0:Int)<f)) ((co (br.mk d e) 3).bind fun b=>gd (bW (c.length+([(aS.mk (b.1==1) ([]) 0 0)]).length)) <| some (.go ((c++([(aS.mk (b.1==1) ([]) 0 0)])),IntKind.i64.wrap (f-1),b.2.L,b.2.i1))) (some (.out (c,d,e)))
def so (c:br):=(co c 7).bind fun b=>(loop (fun s:LU×Int×LN×Int=>oI s.1 s.2.1 s.2.2.1 s.2.2.2) (([]:List aS),IntKind.i64.wrap (2+b.1),b.2.L,b.2.i1)).bind fun r=>lC r.1 r.2.1 r.2.2
theorem DP (d9:br) (h:Value) (e:Nat) (ls:L.heap[e]? = some (.cells (bp d9 h).toArray 84 (0,0))) (k4:¬ T e) (lv:aG (aL.int .i64) (dT T [.box e (bp d9 h) 84]) L h d9.L) (y:LU×br) (B:so d9=some y):bc aO (fun k=>k=e) 42 [pt e 0] L (fun v w'=>∃ (v3:Value) (sO:bC) (v5:Value),v=v3/\j9 aB T L w' [cx v3 sO,.box e (bp y.2 v5) 84] 150 v3 sO y.1/\w'.heap[e]? = some (.cells (bp y.2 v5).toArray 84 (0,0))/\aG (aL.int .i64) (dT T [cx v3 sO,.box e (bp y.2 v5) 84]) w' v5 y.2.L/\h=v5):=by
 refine nR (c:=_) Tryz.func42 rfl T 132 Tryz.ntmps42 hT rfl ls k4 fun a I=>?_;replace I:=I.fS lv;unfold so at B;refine al I fun a I=>?_;refine aM (J:=fun a w=>∃ (t:LU) (ex:LN) (f3:Int) (d:Value) (dn:LV),St L (fun k=>k=e) T 132 [(0,pt e 0),(3,d)] [cx d dn,.box e [h,am f3] 84] [ao aB dn t,aQ (aL.int .i64) h ex] a w/\lC t ex f3=some y) ?_ ?_
 ·refine al I fun a I=>?_;obtain⟨la,hw,B⟩:=bd B;refine wl rfl (bV I nP rfl rfl 0 rfl (bK _ _ (I.drop 0).dlt d9 7 _ _ (I.zb 0 rfl) (I.zi 0 rfl) (aG.lent (i:=0) rfl I.g0) _ hw) fun _ w C O=>?_);obtain⟨p0,he,hrow,h0,c5⟩:=C;obtain rfl:=he.symm;subst c5;refine⟨(bp la.2 h),hrow,fun a I=>?_⟩;replace I:=I.fS (aG.back (i:=0) rfl h0);refine al I fun a I=>?_;replace I:=I.zn aB 150 (by decide);obtain⟨r1,hg,hMo1⟩:=bd B;refine bF _ (fun s a w=>∃ (af:LU) (d5:Int) (a4:LN) (a5:Int) (g5:Value) (ds:LV),(af,d5,a4,a5)=s/\St L (fun k=>k=e) T 132 [(0,pt e 0),(3,g5),(4,am d5)] [cx g5 ds,.box e [h,am a5] 84] [ao aB ds af,aQ (aL.int .i64) h a4] a w) hg ⟨_,_,_,_,_,_,rfl,I.mt [0,1] [0,1]⟩ ?_;rintro s a w f1 ⟨af,d5,a4,a5,g5,ds,rfl,I⟩ B hf1;have B:oI af d5 a4 a5=some f1:=B;unfold oI at B;refine ay ?_;refine al I fun a I=>?_;rcases cd B with⟨hM,B⟩|⟨hM,B⟩
  ·refine al I fun a I=>?_;refine ay ?_;refine al I fun a I=>?_;obtain⟨V,hv,B⟩:=bd B;refine wl rfl (bV I nP rfl rfl 1 rfl (bK _ _ (I.drop 1).dlt (br.mk a4 a5) 3 _ _ (I.zb 1 rfl) (I.zi 1 rfl) (aG.lent (i:=1) rfl I.g1) _ hv) fun _ w C O=>?_);obtain⟨p1,he,hrow,h1,c9⟩:=C;obtain rfl:=he.symm;subst c9;refine⟨(bp V.2 h),hrow,fun a I=>?_⟩;replace I:=I.fS (aG.back (i:=1) rfl h1);refine al I fun a I=>?_;refine qy I (bk (ps:=[(0,.tmp 22)]) I Hk u6 rfl (us:=[[.bool (V.1==1)]]) ⟨rfl,trivial⟩ (ws:=[.bool (V.1==1),.slice none 0 0,am 0,am 0]) rfl) fun a I=>?_;refine wl rfl (ba (ps:=[(0,.tmp 23)]) I LQ u6 (zl:=[.bool false,.slice none 0 0,am 0,am 0]) (by kernel_rfl) rfl (us:=[[.bool (V.1==1),.slice none 0 0,am 0,am 0]]) ⟨rfl,trivial⟩ (ws:=[.bool (V.1==1),.slice none 0 0,am 0,am 0]) rfl rfl rfl rfl fun m0 a w O I=>?_);replace I:=(I.lit (R:=aB) (us:=[.bool (V.1==1),.slice none 0 0,am 0,am 0]) (xs:=[(aS.mk (V.1==1) ([]) 0 0)]) 0 rfl (by decide) (aF (R:=aB) (x:=(aS.mk (V.1==1) ([]) 0 0)) (⟨_,rfl,aG.nil_ _ _ _⟩)) rfl rfl).zf (R:=aB) 0 rfl 0 rfl;obtain⟨hN,B⟩:=aU B;refine wl rfl (bJ (R:=aB) (xs:=af) (ys:=[(aS.mk (V.1==1) ([]) 0 0)]) I LQ (by decide) (by decide) rfl rfl 0 rfl 3 rfl 0 rfl hN rfl fun p2 n0 a w O I=>?_);refine al I fun a I=>?_;exact fin
  refine al I fun a I=>?_;cases B
  have hr:=hf1 _ rfl;subst hr;have B:lC af a4 a5=some y:=hMo1;exact fin
 rintro a w ⟨t,ex,f3,d,dn,I,B⟩;unfold lC at B;refine aM (J:=fun a w=>∃ (fn:LU) (e4:LN) (e5:Int) (ca:LV),St L (fun k=>k=e) T 132 [(3,d)] [cx d ca,.box e [h,am e5] 84] [ao aB ca fn,aQ (aL.int .i64) h e4] a w/\m4 fn e4 e5=some y) ?_ ?_
 ·refine al I fun a I=>?_;obtain⟨r1,hg,hMo1⟩:=bd B;refine bF _ (fun s a w=>∃ (m:LU) (b:Int) (Q:LN) (S:Int) (g:LV),(m,b,Q,S)=s/\St L (fun k=>k=e) T 132 [(0,pt e 0),(3,d),(27,am (t.length:Int)),(28,am b)] [cx d g,.box e [h,am S] 84] [ao aB g m,aQ (aL.int .i64) h Q] a w) hg ⟨_,_,_,_,_,rfl,I.mt [0,1] [0,1]⟩ ?_;rintro s a w f1 ⟨m,b,Q,S,g,rfl,I⟩ B hf1;have B:jK t m b Q S=some f1:=B;unfold jK at B;refine al I fun a I=>?_;refine ay ?_;rcases cd B with⟨hP,B⟩|⟨hP,B⟩
  ·refine al I fun a I=>?_;refine aM (J:=fun a w=>∃ (fr:LU) (ea:LN) (eb:Int) (e0:LV),St L (fun k=>k=e) T 132 [(0,pt e 0),(3,d),(27,am (t.length:Int)),(28,am b)] [cx d e0,.box e [h,am eb] 84] [ao aB e0 fr,aQ (aL.int .i64) h ea] a w/\pZ b fr ea eb=some f1) ?_ ?_
   ·refine al I fun a I=>?_;have hL:=I;replace hL:=hL.zf (R:=aB) 0 rfl 0 rfl;obtain⟨os,hu,B⟩:=bd B;refine kF I MR (wO _ _ hL.dlt m b _ hL.g0 _ hu) fun w a I=>?_;refine aM (J:=fun a w=>∃ (p:Int),St L (fun k=>k=e) T 132 [(0,pt e 0),(3,d),(5,am b),(7,am p),(27,am (t.length:Int)),(28,am b)] [cx d g,.box e [h,am S] 84] [ao aB g m,aQ (aL.int .i64) h Q] a w/\jI m b Q S p=some f1) ?_ ?_
    ·refine al I fun a I=>?_;obtain⟨hK,hl,B⟩:=bd B;refine wl rfl (eQ (R:=aB) I za sY rfl rfl 0 rfl 0 rfl hl rfl fun m1 ns oi n1 hV hW hX a I=>?_);obtain⟨p3,rfl,hy⟩:=hV;replace I:=I.fS hy;refine al I fun a I=>?_;refine qy I (cC (k:=0) I OD 0 rfl hW hX rfl id (us:=[.bool hK.o]) rfl rfl (fun _=>rfl)) fun a I=>?_;exact fz
    rintro a w ⟨p,I,B⟩;unfold jI at B;refine aM (J:=fun a w=>∃ (ak:LN) (av:Int) (n:Bool) (fM g4:Int) (f:Nat),St L (fun k=>k=e) T 132 [(0,pt e 0),(3,d),(5,am b),(7,am p),(8,pt f 0),(27,am (t.length:Int)),(28,am b)] [cx d g,.box e [h,am av] 84,.box f [.bool n,.slice none 0 0,am fM,am g4] 150] [ao aB g m,aQ (aL.int .i64) h ak] a w/\oH m b p ak av n fM g4=some f1) ?_ ?_
    ·obtain⟨N196,hj⟩:∃ N,N=w.heap.size:=⟨_,rfl⟩;replace I:=I.fact (IQ N196) (rc hj);refine dr [(6,.blk (some e)),(9,.blk (some e)),(12,.new N196)] I fun w hQ I=>?_;refine gE [0,1] I fun a I=>?_;obtain⟨M,hk,B⟩:=bd B;obtain⟨hC,k5,oj,n2,hY,fl,i0,i2⟩:=mR (R:=aB) I za sY 0 rfl 1 rfl hk;obtain⟨p4,rfl,hz⟩:=hY;replace I:=I.fS hz;refine dq 2 I (v:=pt hC k5) (i2 rfl rfl) fun a I=>?_;refine gE [3] I fun a I=>?_;refine dq 4 I (l:=[.blk (some e),.blk (some e)]) (v:=.bool M.o) (cC (k:=0) I OD 0 rfl fl i0 rfl (iX I 0 rfl (yb fl) 1 rfl rfl (by decide) (iX I 0 rfl (yb fl) 1 rfl rfl (by decide) bU)) (us:=[.bool M.o]) rfl rfl (fun _=>rfl)) fun a I=>?_;refine gE [5,8] I fun a I=>?_;obtain⟨z,g9,B⟩:=bd B;refine eG (i:=6) (j:=11) rfl rfl (by kernel_rfl) rfl rfl ?_ ?_
     ·skip;refine id (bV I nP rfl rfl 1 rfl (bK _ _ (I.drop 1).dlt (br.mk Q S) 4 _ _ (I.zb 1 rfl) (I.zi 1 rfl) (aG.lent (i:=1) rfl I.g3) _ g9) fun _ w C O=>?_);obtain⟨p5,he,hrow,h2,c2⟩:=C;obtain rfl:=he.symm;subst c2;refine⟨(bp z.2 h),hrow,fun a I=>⟨kU rfl O jD,?_⟩⟩;replace I:=I.fS (aG.back (i:=1) rfl h2);refine gE [7] I fun a I=>?_;obtain⟨Y,gb,B⟩:=bd B;refine eG (i:=9) (j:=11) rfl rfl (by kernel_rfl) rfl rfl ?_ ?_
      ·skip;refine id (bV I nP rfl rfl 1 rfl (bK _ _ (I.drop 1).dlt (br.mk z.2.L z.2.i1) 6 _ _ (I.zb 1 rfl) (I.zi 1 rfl) (aG.lent (i:=1) rfl I.g0) _ gb) fun _ w C O=>?_);obtain⟨p6,he,hrow,h3,c3⟩:=C;obtain rfl:=he.symm;subst c3;refine⟨(bp Y.2 h),hrow,fun a I=>⟨kU rfl O jD,?_⟩⟩;replace I:=I.fS (aG.back (i:=1) rfl h3);refine dq 10 I (v:=.agg #[.bool M.o,.slice none 0 0,am (IntKind.i64.wrap (1+z.1)),am Y.1]) (bk (ps:=[(0,.tmp 48),(2,.tmp 51),(3,.tmp 53)]) I Hk u6 rfl (us:=[[.bool M.o],[am (IntKind.i64.wrap (1+z.1))],[am Y.1]]) ⟨rfl,⟨rfl,⟨rfl,trivial⟩⟩⟩ (ws:=[.bool M.o,.slice none 0 0,am (IntKind.i64.wrap (1+z.1)),am Y.1]) rfl) fun a I=>?_;have i3:=(I.g3:N196<=w.heap.size);refine e1 11 (dP I u6 rfl fun hD i4 a w O I=>⟨gO (O),?_⟩);refine ek 12 (.blk (some hD)) _ (by kernel_rfl) (qr (cI i3 i4)) ?_;refine es 12 I fun w I=>?_;refine eD ?_;exact fin
      skip;have i5:=(I.g2:N196<=w.heap.size);refine id (dP I u6 rfl fun hE i9 a w O I=>⟨gO (O),?_⟩);refine ek 12 (.blk (some hE)) _ (by kernel_rfl) (qr (cI i5 i9)) ?_;refine e1 9 (bV I nP rfl rfl 2 rfl (bK _ _ (I.drop 2).dlt (br.mk z.2.L z.2.i1) 6 _ _ (I.zb 2 rfl) (I.zi 2 rfl) (aG.lent (i:=2) rfl I.g0) _ gb) fun _ w C O=>?_);obtain⟨le,he,hrow,b3,P⟩:=C;obtain rfl:=he.symm;subst P;refine⟨(bp Y.2 h),hrow,fun a I=>⟨kU rfl O jD,?_⟩⟩;replace I:=I.fS (aG.back (i:=2) rfl b3);refine dq 10 I (v:=.agg #[.bool M.o,.slice none 0 0,am (IntKind.i64.wrap (1+z.1)),am Y.1]) (bk (ps:=[(0,.tmp 48),(2,.tmp 51),(3,.tmp 53)]) I Hk u6 rfl (us:=[[.bool M.o],[am (IntKind.i64.wrap (1+z.1))],[am Y.1]]) ⟨rfl,⟨rfl,⟨rfl,trivial⟩⟩⟩ (ws:=[.bool M.o,.slice none 0 0,am (IntKind.i64.wrap (1+z.1)),am Y.1]) rfl) fun a I=>?_;refine es 12 I fun w I=>?_;refine eD ?_;exact fin
     skip;have ib:=(I.g1:N196<=w.heap.size);refine id (dP I u6 rfl fun hF ih a w O I=>⟨gO (O),?_⟩);refine ek 12 (.blk (some hF)) _ (by kernel_rfl) (qr (cI ib ih)) ?_;refine e1 6 (bV I nP rfl rfl 2 rfl (bK _ _ (I.drop 2).dlt (br.mk Q S) 4 _ _ (I.zb 2 rfl) (I.zi 2 rfl) (aG.lent (i:=2) rfl I.g3) _ g9) fun _ w C O=>?_);obtain⟨p7,he,hrow,h4,c4⟩:=C;obtain rfl:=he.symm;subst c4;refine⟨(bp z.2 h),hrow,fun a I=>⟨kU rfl O jD,?_⟩⟩;replace I:=I.fS (aG.back (i:=2) rfl h4);refine gE [7] I fun a I=>?_;obtain⟨d7,hx,B⟩:=bd B;refine e1 9 (bV I nP rfl rfl 2 rfl (bK _ _ (I.drop 2).dlt (br.mk z.2.L z.2.i1) 6 _ _ (I.zb 2 rfl) (I.zi 2 rfl) (aG.lent (i:=2) rfl I.g0) _ hx) fun _ w C O=>?_);obtain⟨le,he,hrow,b3,P⟩:=C;obtain rfl:=he.symm;subst P;refine⟨(bp d7.2 h),hrow,fun a I=>⟨kU rfl O jD,?_⟩⟩;replace I:=I.fS (aG.back (i:=2) rfl b3);refine dq 10 I (v:=.agg #[.bool M.o,.slice none 0 0,am (IntKind.i64.wrap (1+z.1)),am d7.1]) (bk (ps:=[(0,.tmp 48),(2,.tmp 51),(3,.tmp 53)]) I Hk u6 rfl (us:=[[.bool M.o],[am (IntKind.i64.wrap (1+z.1))],[am d7.1]]) ⟨rfl,⟨rfl,⟨rfl,trivial⟩⟩⟩ (ws:=[.bool M.o,.slice none 0 0,am (IntKind.i64.wrap (1+z.1)),am d7.1]) rfl) fun a I=>?_;refine es 12 I fun w I=>?_;refine eD ?_;exact fin
    rintro a w ⟨ak,av,n,fM,g4,f,I,B⟩;unfold oH at B;refine aM (J:=fun a w=>∃ (d2:LN) (d3 A D:Int),St L (fun k=>k=e) T 132 [(0,pt e 0),(3,d),(5,am b),(7,am p),(8,pt f 0),(27,am (t.length:Int)),(28,am b)] [cx d g,.box e [h,am d3] 84,.box f [.bool n,.slice none 0 0,am A,am D] 150] [ao aB g m,aQ (aL.int .i64) h d2] a w/\jH m b p n d2 d3 A D=some f1) ?_ ?_
    ·refine al I fun a I=>?_;rcases cd B with⟨ii,B⟩|⟨ii,B⟩
     ·refine al I fun a I=>?_;refine dr [(2,.blk (some e)),(6,.blk (some f)),(8,.blk (some f))] I fun w hQ I=>?_;refine gE [1,5] I fun a I=>?_;obtain⟨hh,g8,B⟩:=bd B;refine eG (i:=0) (j:=2) rfl rfl (by kernel_rfl) rfl rfl ?_ ?_
      ·skip;refine id (ba (ps:=[(0,.const (am 0)),(1,.const (am 1)),(2,.const (am 2)),(3,.const (am 4)),(4,.const (am 8)),(5,.const (am 16))]) I LP Q3 (zl:=[am 0,am 0,am 0,am 0,am 0,am 0]) (by kernel_rfl) rfl (us:=[[am 0],[am 1],[am 2],[am 4],[am 8],[am 16]]) ⟨rfl,⟨rfl,⟨rfl,⟨rfl,⟨rfl,⟨rfl,trivial⟩⟩⟩⟩⟩⟩ (ws:=[am 0,am 1,am 2,am 4,am 8,am 16]) rfl rfl rfl rfl fun m2 a w O I=>⟨gO (O),?_⟩);refine e1 2 (bV I nP rfl rfl 2 rfl (bK _ _ (I.drop 2).dlt (br.mk ak av) 6 _ _ (I.zb 2 rfl) (I.zi 2 rfl) (aG.lent (i:=2) rfl I.g1) _ g8) fun _ w C O=>?_);obtain⟨pe,he,hrow,h5,c1⟩:=C;obtain rfl:=he.symm;subst c1;refine⟨(bp hh.2 h),hrow,fun a I=>⟨kU rfl O jD,?_⟩⟩;replace I:=((I.fS (aG.back (i:=2) rfl h5)).lit (R:=(aL.int .i64)) (us:=[am 0,am 1,am 2,am 4,am 8,am 16]) (xs:=[0,1,2,4,8,16]) 0 rfl (by decide) ((aF (R:=(aL.int .i64)) (x:=0) rfl).append ((aF (R:=(aL.int .i64)) (x:=1) rfl).append ((aF (R:=(aL.int .i64)) (x:=2) rfl).append ((aF (R:=(aL.int .i64)) (x:=4) rfl).append ((aF (R:=(aL.int .i64)) (x:=8) rfl).append (aF (R:=(aL.int .i64)) (x:=16) rfl)))))) rfl rfl).zf (R:=(aL.int .i64)) 0 rfl 0 rfl;obtain⟨a9,Z,B⟩:=bd B;obtain⟨ag,b4,gi,b0,b2,I⟩:=mh (R:=(aL.int .i64)) I IH Ea 0 rfl Z;obtain rfl:=b0;refine dq 3 I (v:=pt ag b4) (b2 rfl rfl) fun a I=>?_;refine dq 4 I (l:=[.blk (some f)]) (v:=am a9) (wz (k:=0) I Ea 0 rfl rfl (Jv 2 rfl rfl DA) (us:=[am a9]) rfl rfl (fun _=>rfl)) fun a I=>?_;refine es 6 I fun w I=>?_;refine gE [7] I fun a I=>?_;refine es 8 I fun w I=>?_;refine eD ?_;exact fin
      skip;refine id (bV I nP rfl rfl 1 rfl (bK _ _ (I.drop 1).dlt (br.mk ak av) 6 _ _ (I.zb 1 rfl) (I.zi 1 rfl) (aG.lent (i:=1) rfl I.g1) _ g8) fun _ w C O=>?_);obtain⟨pf,he,hrow,h6,bt⟩:=C;obtain rfl:=he.symm;subst bt;refine⟨(bp hh.2 h),hrow,fun a I=>⟨kU rfl O jD,?_⟩⟩;replace I:=I.fS (aG.back (i:=1) rfl h6);refine eG (i:=0) (j:=6) rfl rfl (by kernel_rfl) rfl rfl ?_ ?_
      ·skip;refine id (ba (ps:=[(0,.const (am 0)),(1,.const (am 1)),(2,.const (am 2)),(3,.const (am 4)),(4,.const (am 8)),(5,.const (am 16))]) I LP Q3 (zl:=[am 0,am 0,am 0,am 0,am 0,am 0]) (by kernel_rfl) rfl (us:=[[am 0],[am 1],[am 2],[am 4],[am 8],[am 16]]) ⟨rfl,⟨rfl,⟨rfl,⟨rfl,⟨rfl,⟨rfl,trivial⟩⟩⟩⟩⟩⟩ (ws:=[am 0,am 1,am 2,am 4,am 8,am 16]) rfl rfl rfl rfl fun hG a w O I=>⟨gO (O),?_⟩);replace I:=(I.lit (R:=(aL.int .i64)) (us:=[am 0,am 1,am 2,am 4,am 8,am 16]) (xs:=[0,1,2,4,8,16]) 0 rfl (by decide) ((aF (R:=(aL.int .i64)) (x:=0) rfl).append ((aF (R:=(aL.int .i64)) (x:=1) rfl).append ((aF (R:=(aL.int .i64)) (x:=2) rfl).append ((aF (R:=(aL.int .i64)) (x:=4) rfl).append ((aF (R:=(aL.int .i64)) (x:=8) rfl).append (aF (R:=(aL.int .i64)) (x:=16) rfl)))))) rfl rfl).zf (R:=(aL.int .i64)) 0 rfl 0 rfl;obtain⟨a9,Z,B⟩:=bd B;obtain⟨ag,b4,gi,b0,b2,I⟩:=mh (R:=(aL.int .i64)) I IH Ea 0 rfl Z;obtain rfl:=b0;refine dq 3 I (v:=pt ag b4) (b2 rfl rfl) fun a I=>?_;refine dq 4 I (l:=[.blk (some f)]) (v:=am a9) (wz (k:=0) I Ea 0 rfl rfl (Jv 2 rfl rfl DA) (us:=[am a9]) rfl rfl (fun _=>rfl)) fun a I=>?_;refine es 6 I fun w I=>?_;refine gE [7] I fun a I=>?_;refine es 8 I fun w I=>?_;refine eD ?_;exact fin
      skip;refine id (ul I rfl rfl (us:=[am 5]) rfl Ea 2 rfl rfl rfl (oc rfl on) fun w O I=>⟨kU rfl O jD,?_⟩);refine e1 0 (ba (ps:=[(0,.const (am 0)),(1,.const (am 1)),(2,.const (am 2)),(3,.const (am 4)),(4,.const (am 8)),(5,.const (am 16))]) I LP Q3 (zl:=[am 0,am 0,am 0,am 0,am 0,am 0]) (by kernel_rfl) rfl (us:=[[am 0],[am 1],[am 2],[am 4],[am 8],[am 16]]) ⟨rfl,⟨rfl,⟨rfl,⟨rfl,⟨rfl,⟨rfl,trivial⟩⟩⟩⟩⟩⟩ (ws:=[am 0,am 1,am 2,am 4,am 8,am 16]) rfl rfl rfl rfl fun hG a w O I=>⟨gO (O),?_⟩);replace I:=(I.lit (R:=(aL.int .i64)) (us:=[am 0,am 1,am 2,am 4,am 8,am 16]) (xs:=[0,1,2,4,8,16]) 0 rfl (by decide) ((aF (R:=(aL.int .i64)) (x:=0) rfl).append ((aF (R:=(aL.int .i64)) (x:=1) rfl).append ((aF (R:=(aL.int .i64)) (x:=2) rfl).append ((aF (R:=(aL.int .i64)) (x:=4) rfl).append ((aF (R:=(aL.int .i64)) (x:=8) rfl).append (aF (R:=(aL.int .i64)) (x:=16) rfl)))))) rfl rfl).zf (R:=(aL.int .i64)) 0 rfl 0 rfl;obtain⟨a9,Z,B⟩:=bd B;obtain⟨ag,b4,gi,b0,b2,I⟩:=mh (R:=(aL.int .i64)) I IH Ea 0 rfl Z;obtain rfl:=b0;refine dq 3 I (v:=pt ag b4) (b2 rfl rfl) fun a I=>?_;refine gE [4,7] I fun a I=>?_;refine es 8 I fun w I=>?_;refine eD ?_;exact fin
     exact fz
    rintro a w ⟨d2,d3,A,D,I,B⟩;unfold jH at B;refine aM (J:=fun a w=>∃ (ed:LN) (el:Int) (d6:(List fh)) (d8:Value) (e2:LV),St L (fun k=>k=e) T 132 [(0,pt e 0),(3,d),(5,am b),(8,pt f 0),(27,am (t.length:Int)),(28,am b)] [cx d g,.box e [h,am el] 84,ya d8 e2,.box f [.bool n,d8,am A,am D] 150] [ao aB g m,aQ (aL.int .i64) h ed,ao fo e2 d6] a w/\m5 m b n A D ed el d6=some f1) ?_ ?_
    ·refine al I fun a I=>?_;obtain⟨l4,ht,B⟩:=bd B;refine wl rfl (bV I nP rfl rfl 1 rfl (bK _ _ (I.drop 1).dlt (br.mk d2 d3) 4 _ _ (I.zb 1 rfl) (I.zi 1 rfl) (aG.lent (i:=1) rfl I.g1) _ ht) fun _ w C O=>?_);obtain⟨pk,he,hrow,h7,b6⟩:=C;obtain rfl:=he.symm;subst b6;refine⟨(bp l4.2 h),hrow,fun a I=>?_⟩;replace I:=I.fS (aG.back (i:=1) rfl h7);refine al I fun a I=>?_;replace I:=I.zn fo 147 (by decide);obtain⟨r2,lt,hMo2⟩:=bd B;refine bF _ (fun s a w=>∃ (r:Int) (a2:LN) (a3:Int) (u:(List fh)) (F:Value) (E:LV),(r,a2,a3,u)=s/\St L (fun k=>k=e) T 132 [(0,pt e 0),(3,d),(5,am b),(7,am p),(8,pt f 0),(9,am r),(27,am (t.length:Int)),(28,am b)] [cx d g,.box e [h,am a3] 84,ya F E,.box f [.bool n,F,am A,am D] 150] [ao aB g m,aQ (aL.int .i64) h a2,ao fo E u] a w) lt ⟨_,_,_,_,_,_,rfl,I.mt [1,2,0,3] [2,1,0]⟩ ?_;rintro s a w f2 ⟨r,a2,a3,u,F,E,rfl,I⟩ B hf2;have B:jJ p n r a2 a3 u=some f2:=B;unfold jJ at B;refine ay ?_;refine al I fun a I=>?_;rcases cd B with⟨j0,B⟩|⟨j0,B⟩
     ·refine al I fun a I=>?_;refine aM (J:=fun a w=>∃ (eq:LN) (er:Int) (fs:(List fh)) (g6:Value) (e3:LV),St L (fun k=>k=e) T 132 [(0,pt e 0),(3,d),(5,am b),(7,am p),(8,pt f 0),(9,am r),(27,am (t.length:Int)),(28,am b)] [cx d g,.box e [h,am er] 84,ya g6 e3,.box f [.bool n,g6,am A,am D] 150] [ao aB g m,aQ (aL.int .i64) h eq,ao fo e3 fs] a w/\p8 r eq er fs=some f2) ?_ ?_
      ·refine al I fun a I=>?_;refine aM (J:=fun a w=>∃ (a0:LN) (a1:Int) (q:Bool) (G:Nat),St L (fun k=>k=e) T 132 [(0,pt e 0),(3,d),(5,am b),(7,am p),(8,pt f 0),(9,am r),(10,pt G 0),(27,am (t.length:Int)),(28,am b)] [cx d g,.box e [h,am a1] 84,ya F E,.box f [.bool n,F,am A,am D] 150,.box G [.bool q,.bool false,am 0,am 0] 147] [ao aB g m,aQ (aL.int .i64) h a0,ao fo E u] a w/\jG p n r u a0 a1 q=some f2) ?_ ?_
       ·refine al I fun a I=>?_;obtain⟨l2,hs,B⟩:=bd B;refine wl rfl (bV I nP rfl rfl 1 rfl (bK _ _ (I.drop 1).dlt (br.mk a2 a3) 3 _ _ (I.zb 1 rfl) (I.zi 1 rfl) (aG.lent (i:=1) rfl I.g1) _ hs) fun _ w C O=>?_);obtain⟨pl,he,hrow,h8,bs⟩:=C;obtain rfl:=he.symm;subst bs;refine⟨(bp l2.2 h),hrow,fun a I=>?_⟩;replace I:=I.fS (aG.back (i:=1) rfl h8);refine al I fun a I=>?_;rcases cd B with⟨j1,B⟩|⟨j1,B⟩
        ·refine al I fun a I=>?_;refine qy I (bk (ps:=[(0,.tmp 76)]) I Nq BT rfl (us:=[[.bool true]]) ⟨rfl,trivial⟩ (ws:=[.bool true,.bool false,am 0,am 0]) rfl) fun a I=>?_;refine ka I BT fun m3 nm a w O I=>?_;exact fz
        refine al I fun a I=>?_;refine qy I (bk (ps:=[(0,.tmp 76)]) I Nq BT rfl (us:=[[.bool (p==0)]]) ⟨rfl,trivial⟩ (ws:=[.bool (p==0),.bool false,am 0,am 0]) rfl) fun a I=>?_;refine ka I BT fun md no a w O I=>?_;exact fz
       rintro a w ⟨a0,a1,q,G,I,B⟩;unfold jG at B;refine al I fun a I=>?_;refine aM (J:=fun a w=>∃ (K:Int),St L (fun k=>k=e) T 132 [(0,pt e 0),(3,d),(5,am b),(7,am p),(8,pt f 0),(9,am r),(10,pt G 0),(11,am K),(27,am (t.length:Int)),(28,am b)] [cx d g,.box e [h,am a1] 84,ya F E,.box f [.bool n,F,am A,am D] 150,.box G [.bool q,.bool false,am 0,am 0] 147] [ao aB g m,aQ (aL.int .i64) h a0,ao fo E u] a w/\k7 n r u a0 a1 q K=some f2) ?_ ?_
       ·exact fz
       rintro a w ⟨K,I,B⟩;unfold k7 at B;refine al I fun a I=>?_;obtain⟨b5,ho,B⟩:=bd B;refine wl rfl (bV I nP rfl rfl 1 rfl (bK _ _ (I.drop 1).dlt (br.mk a0 a1) K _ _ (I.zb 1 rfl) (I.zi 1 rfl) (aG.lent (i:=1) rfl I.g1) _ ho) fun _ w C O=>?_);obtain⟨pw,he,hrow,h9,b8⟩:=C;obtain rfl:=he.symm;subst b8;refine⟨(bp b5.2 h),hrow,fun a I=>?_⟩;replace I:=I.fS (aG.back (i:=1) rfl h9);refine go I fun a w I=>?_;refine aM (J:=fun a w=>∃ (cl:LN) (cv H:Int),St L (fun k=>k=e) T 132 [(0,pt e 0),(3,d),(5,am b),(7,am p),(8,pt f 0),(9,am r),(10,pt G 0),(11,am K),(27,am (t.length:Int)),(28,am b)] [cx d g,.box e [h,am cv] 84,ya F E,.box f [.bool n,F,am A,am D] 150,.box G [.bool q,.bool false,am H,am 0] 147] [ao aB g m,aQ (aL.int .i64) h cl,ao fo E u] a w/\kZ n r u q K cl cv H=some f2) ?_ ?_
       ·refine aM (J:=fun a w=>∃ (fd:Bool) (d0:LN) (d1:Int),St L (fun k=>k=e) T 132 [(0,pt e 0),(3,d),(5,am b),(7,am p),(8,pt f 0),(9,am r),(10,pt G 0),(11,am K),(27,am (t.length:Int)),(28,am b),(92,.bool fd)] [cx d g,.box e [h,am d1] 84,ya F E,.box f [.bool n,F,am A,am D] 150,.box G [.bool q,.bool false,am b5.1,am 0] 147] [ao aB g m,aQ (aL.int .i64) h d0,ao fo E u] a w/\k6 n r u q K b5 fd d0 d1=some f2) ?_ ?_
        ·refine al I fun a I=>?_;rcases cd B with⟨gs,B⟩|⟨gs,B⟩
         ·refine al I fun a I=>?_;obtain⟨l1,hq,B⟩:=bd B;refine wg I rfl rfl rfl gs (bV I nP rfl rfl 1 rfl (bK _ _ (I.drop 1).dlt (br.mk b5.2.L b5.2.i1) 2 _ _ (I.zb 1 rfl) (I.zi 1 rfl) (aG.lent (i:=1) rfl I.g0) _ hq) fun _ w C O=>?_);obtain⟨q0,he,hrow,ha,bl⟩:=C;obtain rfl:=he.symm;subst bl;refine⟨(bp l1.2 h),hrow,fun a I=>?_⟩;replace I:=I.fS (aG.back (i:=1) rfl ha);exact fz
         exact fz
        rintro a w ⟨fd,d0,d1,I,B⟩;unfold k6 at B;rcases cd B with⟨j3,B⟩|⟨j3,B⟩
        ·refine al I fun a I=>?_;refine qy I (K4 I rfl rfl) fun a I=>?_;obtain⟨l0,hp,B⟩:=bd B;refine wl rfl (bV I nP rfl rfl 1 rfl (bK _ _ (I.drop 1).dlt (br.mk d0 d1) (min K 3) _ _ (I.zb 1 rfl) (I.zi 1 rfl) (aG.lent (i:=1) rfl I.g1) _ hp) fun _ w C O=>?_);obtain⟨q1,he,hrow,hc,bi⟩:=C;obtain rfl:=he.symm;subst bi;refine⟨(bp l0.2 h),hrow,fun a I=>?_⟩;replace I:=I.fS (aG.back (i:=1) rfl hc);exact fz
        exact fz
       rintro a w ⟨cl,cv,H,I,B⟩;unfold kZ at B;refine aM (J:=fun a w=>∃ (et:LN) (ew:Int) (W:Bool) (X:Int),St L (fun k=>k=e) T 132 [(0,pt e 0),(3,d),(5,am b),(7,am p),(8,pt f 0),(9,am r),(10,pt G 0),(27,am (t.length:Int)),(28,am b)] [cx d g,.box e [h,am ew] 84,ya F E,.box f [.bool n,F,am A,am D] 150,.box G [.bool q,.bool W,am H,am X] 147] [ao aB g m,aQ (aL.int .i64) h et,ao fo E u] a w/\kY r u q H et ew W X=some f2) ?_ ?_
       ·refine aM (J:=fun a w=>∃ (f4:Bool) (ch:LN) (ck:Int),St L (fun k=>k=e) T 132 [(0,pt e 0),(3,d),(5,am b),(7,am p),(8,pt f 0),(9,am r),(10,pt G 0),(11,am K),(27,am (t.length:Int)),(28,am b),(114,.bool f4)] [cx d g,.box e [h,am ck] 84,ya F E,.box f [.bool n,F,am A,am D] 150,.box G [.bool q,.bool false,am H,am 0] 147] [ao aB g m,aQ (aL.int .i64) h ch,ao fo E u] a w/\jm r u q K H f4 ch ck=some f2) ?_ ?_
        ·refine al I fun a I=>?_;rcases cd B with⟨jb,B⟩|⟨jb,B⟩
         ·refine al I fun a I=>?_;rcases cd B with⟨gu,B⟩|⟨gu,B⟩
          ·refine al I fun a I=>?_;obtain⟨kt,hn,B⟩:=bd B;refine wg I rfl rfl rfl gu (bV I nP rfl rfl 1 rfl (bK _ _ (I.drop 1).dlt (br.mk cl cv) 3 _ _ (I.zb 1 rfl) (I.zi 1 rfl) (aG.lent (i:=1) rfl I.g1) _ hn) fun _ w C O=>?_);obtain⟨q2,he,hrow,hd,bb⟩:=C;obtain rfl:=he.symm;subst bb;refine⟨(bp kt.2 h),hrow,fun a I=>?_⟩;replace I:=I.fS (aG.back (i:=1) rfl hd);exact fz
          exact fz
         exact fz
        rintro a w ⟨f4,ch,ck,I,B⟩;unfold jm at B;rcases cd B with⟨js,B⟩|⟨js,B⟩
        ·refine al I fun a I=>?_;obtain⟨ks,hm,B⟩:=bd B;refine wl rfl (bV I nP rfl rfl 1 rfl (bK _ _ (I.drop 1).dlt (br.mk ch ck) K _ _ (I.zb 1 rfl) (I.zi 1 rfl) (aG.lent (i:=1) rfl I.g1) _ hm) fun _ w C O=>?_);obtain⟨q3,he,hrow,hf,b9⟩:=C;obtain rfl:=he.symm;subst b9;refine⟨(bp ks.2 h),hrow,fun a I=>?_⟩;replace I:=I.fS (aG.back (i:=1) rfl hf);exact fz
        refine al I fun a I=>?_;exact fin
       rintro a w ⟨et,ew,W,X,I,B⟩;unfold kY at B;refine al I fun a I=>?_;refine wl rfl (ba (ps:=[(0,.tmp 122)]) I Ju BT (zl:=[.bool false,.bool false,am 0,am 0]) (by kernel_rfl) rfl (us:=[[.bool q,.bool W,am H,am X]]) ⟨rfl,trivial⟩ (ws:=[.bool q,.bool W,am H,am X]) rfl rfl rfl rfl fun ms a w O I=>?_);replace I:=(I.lit (R:=fo) (us:=[.bool q,.bool W,am H,am X]) (xs:=[(fh.mk q W H X)]) 0 rfl (by decide) (aF (R:=fo) (x:=(fh.mk q W H X)) rfl) rfl rfl).zf (R:=fo) 0 rfl 0 rfl;obtain⟨k0,B⟩:=aU B;refine wl rfl (bJ (R:=fo) (xs:=u) (ys:=[(fh.mk q W H X)]) I Ju (by decide) (by decide) rfl rfl 2 rfl 4 rfl 0 rfl k0 rfl fun q4 nd a w O I=>?_);exact fz
      rintro a w ⟨eq,er,fs,g6,e3,I,B⟩;unfold p8 at B;exact fz
     refine al I fun a I=>?_;cases B
     have hr:=hf2 _ rfl;subst hr;have B:m5 m b n A D a2 a3 u=some f1:=hMo2;exact fin
    rintro a w ⟨ed,el,d6,d8,e2,I,B⟩;unfold m5 at B;refine al I fun a I=>?_;obtain⟨hI,g7,B⟩:=bd B;refine wl rfl (eQ (R:=aB) I za sY rfl rfl 0 rfl 0 rfl g7 rfl fun mv of ok ng k1 k2 k3 a I=>?_);obtain⟨ll,rfl,hA⟩:=k1;replace I:=(I.fS hA).zf (R:=fo) 2 rfl 3 rfl;refine wl rfl (xY (R:=aB) (k:=0) (cs:=(wH hI ll)) (us:=[.bool n,d8,am A,am D]) (x':=(aS.mk n d6 A D)) I rfl rfl rfl sY 0 rfl 2 rfl k2 k3 g7 (⟨_,rfl,I.g1⟩) rfl rfl (⟨_,rfl,I.g0⟩) fun nl w O I=>?_);exact fz
   rintro a w ⟨fr,ea,eb,e0,I,B⟩;unfold pZ at B;exact fz
  refine al I fun a I=>?_;cases B
  have hr:=hf1 _ rfl;subst hr;have B:m4 m Q S=some y:=hMo1;exact fin
 rintro a w ⟨fn,e4,e5,ca,I,B⟩;unfold m4 at B;refine al I fun a I=>?_;cases B
 refine aE I rfl (ap I rfl aC) ?_;exact⟨d,ca,h,rfl,I.zm ⟨.inr (aK (i:=0) rfl),⟨.inr (aK (i:=1) rfl),trivial⟩⟩ 0 rfl 0 rfl 1 rfl (by decide),I.zb 1 rfl,(aG.up ⟨.inr (aK (i:=0) rfl),⟨.inr (aK (i:=1) rfl),trivial⟩⟩ I.g1),rfl⟩
end
end
section
set_option maxRecDepth 100000
set_option maxHeartbeats 4000000
open Go.RowKit
variable (T:Nat->Prop) (L:World) (hT:TW T L)
include hT
noncomputable section
def gV (b:aA):=gd (bW (([]:List ae).length+b.v.length)) <| some ((aA.mk b.d b.u (([]:List ae)++b.v) b.c b.l b.j b.d1))
theorem nE (b:aA) (h:Value) (g:aG ac T L h b.v) (y:aA) (B:gV b=some y):bc aO No 120 [.agg (bx b h).toArray] L (fun v w'=>∃ (f:Value) (dA:bC),v = .agg (bx y f).toArray/\j9 ac T L w' [aD f dA] 30 f dA y.v):=by
 refine en Tryz.func120 Tryz.ntmps120 hT fun a I=>?_;replace I:=I.fS (aG.dn g);unfold gV at B;refine kB I fun j l a w O I=>?_;refine ka I ge fun k m a w O I=>?_;refine al I fun a I=>?_;replace I:=I.zn ac 30 (by decide);obtain⟨d,B⟩:=aU B;refine wl rfl (bJ (R:=ac) (xs:=([]:List ae)) (ys:=b.v) I kG (by decide) (by decide) rfl rfl 0 rfl 0 rfl 1 rfl d rfl fun e c a w O I=>?_);refine go I fun a w I=>?_;cases B
 refine aE I rfl (rC 1 I) ?_;exact⟨e,c,rfl,I.zo ⟨.inr (aK (i:=0) rfl),trivial⟩ 0 rfl 0 rfl⟩
def qc (b:LR):=some (b)
def m6 (e c:LR) (b:Int):Option (Fl (LR×Int) (LR)):=cond (decide (b<(e.length:Int))) ((bG e b).bind fun f=>(gV f).bind fun d=>gd (bW (c.length+([d]).length)) <| some (.go ((c++([d])),IntKind.i64.wrap (b+1)))) (some (.out c))
def su (b:LR):=(loop (fun s:LR×Int=>m6 b s.1 s.2) (([]:List aA),0)).bind fun r=>qc r
theorem DW (g:LR) (q:Value) (E:aG aa T L q g) (y:LR) (B:su g=some y):bc aO No 149 [q] L (fun v w'=>∃ (A:Value) (dA:bC),v=A/\j9 aa T L w' [aJ A dA] 33 A dA y):=by
 refine en Tryz.func149 Tryz.ntmps149 hT fun a I=>?_;replace I:=I.fS (aG.dn E);unfold su at B;refine al I fun a I=>?_;refine aM (J:=fun a w=>∃ (j:LR) (f:Value) (d:LV),St L No T 19 [(3,f)] [aJ f d] [ao aa d j] a w/\qc j=some y) ?_ ?_
 ·refine al I fun a I=>?_;replace I:=I.zn aa 33 (by decide);obtain⟨X,D,hMo1⟩:=bd B;refine bF _ (fun s a w=>∃ (c:LR) (e:Int) (k:Value) (h:LV),(c,e)=s/\St L No T 19 [(3,k),(6,q),(7,am (g.length:Int)),(8,am e)] [aJ k h] [ao aa h c,aQ aa q g] a w) D ⟨_,_,_,_,rfl,I.mt [0] [0,1]⟩ ?_;rintro s a w P ⟨c,e,k,h,rfl,I⟩ B hf1;have B:m6 g c e=some P:=B;unfold m6 at B;refine al I fun a I=>?_;refine ay ?_;rcases cd B with⟨t,B⟩|⟨t,B⟩
  ·refine al I fun a I=>?_;refine ay ?_;refine al I fun a I=>?_;obtain⟨r,n,B⟩:=bd B;refine wl rfl (bz (R:=aa) I rb ow rfl rfl 1 rfl n rfl fun F S K u a I=>?_);obtain⟨V,rfl,p⟩:=u;replace I:=I.fS p;refine kA I ge fun G Q a w O I=>?_;refine go I fun a w I=>?_;obtain⟨b,o,B⟩:=bd B;refine kc I GS (nE _ _ I.dlt r _ I.g0 _ o) fun _ w C a O U=>?_;obtain⟨l,M,he,m⟩:=C;obtain rfl:=he.symm;have I:=uc U m;refine wl rfl (ba (ps:=[(0,.tmp 14)]) I tK ge (zl:=[am 0,aT cg,aT cg,.slice none 0 0,am 0,am 0,am 0,.bool false]) (by kernel_rfl) rfl (us:=[(bx b l)]) ⟨rfl,trivial⟩ (ws:=(bx b l)) rfl rfl rfl rfl fun H a w O I=>?_);replace I:=I.zf (R:=ac) 1 rfl 0 rfl;replace I:=(I.lit (R:=aa) (us:=(bx b l)) (xs:=[b]) 0 rfl (by decide) (aF (R:=aa) (x:=b) (⟨_,rfl,I.g0⟩)) rfl rfl).zf (R:=aa) 0 rfl 0 rfl;obtain⟨z,B⟩:=aU B;refine wl rfl (bJ (R:=aa) (xs:=c) (ys:=[b]) I tK (by decide) (by decide) rfl rfl 1 rfl 6 rfl 0 rfl z rfl fun W N a w O I=>?_);exact fz
  exact fz
 rintro a w ⟨j,f,d,I,B⟩;unfold qc at B;refine al I fun a I=>?_;cases B
 refine aE I rfl (ap I rfl aC) ?_;exact⟨f,d,rfl,I.zo ⟨.inr (aK (i:=0) rfl),trivial⟩ 0 rfl 0 rfl⟩
def fC (b:ar):=gd (bW (([]:List be).length+b.i.length)) <| (su b.s).bind fun c=>some ((ar.mk b.r (([]:List be)++b.i) c))
theorem e6 (b:ar) (p q:Value) (n:aG ab T L p b.i) (o:aG aa T L q b.s) (y:ar) (B:fC b=some y):bc aO No 95 [.agg (bo b p q).toArray] L (fun v w'=>∃ (d:Value) (sO:bC) (e:Value) (zD:bC),v = .agg (bo y d e).toArray/\j9 ab T L w' [a7 d sO,aJ e zD] 91 d sO y.i/\j9 aa T L w' [a7 d sO,aJ e zD] 33 e zD y.s/\(∀ k,d.ownBlock=some k->e.ownBlock≠some k)):=by
 refine en Tryz.func95 Tryz.ntmps95 hT fun a I=>?_;replace I:=(I.fS (aG.dn n)).fS (aG.dn o);unfold fC at B;refine kB I fun r u a w O I=>?_;refine ka I ph fun t x a w O I=>?_;refine al I fun a I=>?_;replace I:=I.zn ab 91 (by decide);obtain⟨j,B⟩:=aU B;refine wl rfl (bJ (R:=ab) (xs:=([]:List be)) (ys:=b.i) I Dy (by decide) (by decide) rfl rfl 0 rfl 0 rfl 2 rfl j rfl fun l g a w O I=>?_);refine go I fun a w I=>?_;obtain⟨z,f,B⟩:=bd B;refine kc I Pn (DW _ _ I.dlt b.s _ I.g2 _ f) fun _ w C a O U=>?_;obtain⟨m,h,he,c⟩:=C;obtain rfl:=he.symm;have I:=uc U c;refine go I fun a w I=>?_;cases B
 refine aE I rfl (rC 2 I) ?_;exact⟨l,g,m,h,rfl,I.zo ⟨.inr (aK (i:=1) rfl),⟨.inr (aK (i:=0) rfl),trivial⟩⟩ 1 rfl 1 rfl,I.zo ⟨.inr (aK (i:=1) rfl),⟨.inr (aK (i:=0) rfl),trivial⟩⟩ 0 rfl 0 rfl,(I.zp 1 rfl 0 rfl (by decide))⟩
def hH (b:Int):=some (b)
def hJ (c:ByteArray) (d b:Int):Option (Fl (Int×Int) (Fl (Int) Int)):=cond (decide (b<(c.size:Int))) ((bG c.toList b).bind fun e=>cond (decide (((e.toNat:Int):Int)<48)) (some (.out (.out (-1)))) ((bG c.toList b).bind fun f=>cond (decide ((57:Int)<(f.toNat:Int))) (some (.out (.out (-1)))) ((bG c.toList b).bind fun g=>some (.go (IntKind.i64.wrap ((IntKind.i64.wrap (10*d))+(IntKind.i64.wrap (IntKind.u8.wrap ((g.toNat:Int)-48)))),IntKind.i64.wrap (b+1)))))) (some (.out (.go d)))
def dD (c:ByteArray) (b:Bool):=cond b (some ((-1))) ((loop (fun s:Int×Int=>hJ c s.1 s.2) (0,0)).bind fun r=>Fl.el r (fun s=>hH s) (fun y=>some (y)))
def k8 (b:ByteArray):=cond (b.toList==cg.toList) (dD b true) (cond (decide ((9:Int)<(b.size:Int))) (dD b true) ((bG b.toList 0).bind fun c=>cond (((c.toNat:Int):Int)==48) (dD b (!(b.toList==(ByteArray.mk #[48]).toList))) (dD b false)))
theorem uV (b:ByteArray) (y:Int) (B:k8 b=some y):bc aO No 192 [aT b] L (fun v w'=>v=am y):=by
 refine en Tryz.func192 Tryz.ntmps192 hT fun a I=>?_;unfold k8 at B;refine al I fun a I=>?_;refine ay ?_;refine aM (J:=fun a w=>∃ (e:Bool),St L No T 46 [(0,aT b),(20,.bool e)] [] [] a w/\dD b e=some y) ?_ ?_
 ·refine al I fun a I=>?_;rcases cd B with⟨m,B⟩|⟨m,B⟩
  ·exact fz
  refine al I fun a I=>?_;rcases cd B with⟨g,B⟩|⟨g,B⟩
  ·exact fz
  refine al I fun a I=>?_;obtain⟨x,l,B⟩:=bd B;refine qg I g (uO I Tryz.underlying9 rfl rfl l) fun a I=>?_;exact fz
 rintro a w ⟨e,I,B⟩;unfold dD at B;rcases cd B with⟨n,B⟩|⟨n,B⟩
 ·exact fz
 refine al I fun a I=>?_;refine aM (J:=fun a w=>∃ (f:Int),St L No T 46 [(3,am f)] [] [] a w/\hH f=some y) ?_ ?_
 ·refine al I fun a I=>?_;obtain⟨A,q,hMo1⟩:=bd B;refine bF _ (fun s a w=>∃ (d c:Int),(d,c)=s/\St L No T 46 [(0,aT b),(3,am d),(4,am c)] [] [] a w) q ⟨_,_,rfl,I.mt [] []⟩ ?_;rintro s a w z ⟨d,c,rfl,I⟩ B hf1;have B:hJ b d c=some z:=B;unfold hJ at B;refine ay ?_;refine al I fun a I=>?_;rcases cd B with⟨o,B⟩|⟨o,B⟩
  ·refine al I fun a I=>?_;refine ay ?_;refine al I fun a I=>?_;refine ay ?_;refine dN ?_;refine al I fun a I=>?_;obtain⟨r,i,B⟩:=bd B;refine qy I (uO I Tryz.underlying9 rfl rfl i) fun a I=>?_;refine al I fun a I=>?_;rcases cd B with⟨h,B⟩|⟨h,B⟩
   ·exact fz
   refine al I fun a I=>?_;obtain⟨t,j,B⟩:=bd B;refine qg I h (uO I Tryz.underlying9 rfl rfl j) fun a I=>?_;refine al I fun a I=>?_;rcases cd B with⟨p,B⟩|⟨p,B⟩
   ·exact fz
   refine al I fun a I=>?_;obtain⟨u,k,B⟩:=bd B;refine qy I (uO I Tryz.underlying9 rfl rfl k) fun a I=>?_;refine al I fun a I=>?_;exact fin
  exact fz
 rintro a w ⟨f,I,B⟩;unfold hH at B;exact fz
def iO (c:Int) (b:Bool):=cond b (some (c)) (some ((-1)))
def iZ (c:ae):=(k8 c.t).bind fun b=>cond (decide ((30:Int)<=c.k)) (cond (decide (c.k<=32)) (iO b (decide (b<=99))) (iO b false)) (iO b false)
theorem oL (c:ae) (y:Int) (B:iZ c=some y):bc aO No 150 [.agg (bf c).toArray] L (fun v w'=>v=am y):=by
 refine en Tryz.func150 Tryz.ntmps150 hT fun a I=>?_;unfold iZ at B;refine kB I fun f g a w O I=>?_;refine al I fun a I=>?_;refine ay ?_;refine al I fun a I=>?_;obtain⟨d,e,B⟩:=bd B;refine kF I MZ (uV _ _ I.dlt c.t _ e) fun w a I=>?_;refine aM (J:=fun a w=>∃ (b:Bool),St L No T 20 [(3,am d),(18,.bool b)] [] [] a w/\iO d b=some y) ?_ ?_
 ·exact fz
 rintro a w ⟨b,I,B⟩;unfold iO at B;exact fz
def eY (b:Bool):=some (b)
def fW (b:ae) (c:Bool):=cond c ((iZ b).bind fun d=>some (decide ((0:Int)<=d))) (cond (decide ((1:Int)<=b.k)) (cond (decide (b.k<=22)) (cond (decide (((b.t.size:Int):Int)<=1073741824)) (cond (b.t.toList==cg.toList) (eY true) (cond (b.k != 1) (eY (b.k != 21)) (eY false))) (eY false)) (eY false)) (eY false))
def cV (b:ae):=cond (decide ((30:Int)<=b.k)) (fW b (decide (b.k<=32))) (fW b false)
theorem jn (b:ae) (y:Bool) (B:cV b=some y):bc aO No 96 [.agg (bf b).toArray] L (fun v w'=>v = .bool y):=by
 refine en Tryz.func96 Tryz.ntmps96 hT fun a I=>?_;unfold cV at B;refine kB I fun e h a w O I=>?_;refine al I fun a I=>?_;refine ay ?_;refine aM (J:=fun a w=>∃ (d:Bool),St L No T 43 [(1,pt e 0),(10,.bool d)] [.box e (bf b) 30] [] a w/\fW b d=some y) ?_ ?_
 ·exact fz
 rintro a w ⟨d,I,B⟩;unfold fW at B;rcases cd B with⟨g,B⟩|⟨g,B⟩
 ·refine al I fun a I=>?_;obtain⟨i,f,B⟩:=bd B;refine kE I GX (oL _ _ I.dlt b _ f) fun w a I=>?_;exact fz
 refine al I fun a I=>?_;refine aM (J:=fun a w=>∃ (c:Bool),St L No T 43 [(2,.bool c)] [] [] a w/\eY c=some y) ?_ ?_
 ·exact fz
 rintro a w ⟨c,I,B⟩;unfold eY at B;exact fz
def jO (b:Bool):=some (b)
def cH (b:ae):=cond (b.k==1) (jO true) (cond (b.k==2) (jO true) (jO (b.k==30)))
theorem dE (c:ae) (y:Bool) (B:cH c=some y):bc aO No 97 [.agg (bf c).toArray] L (fun v w'=>v = .bool y):=by
 refine en Tryz.func97 Tryz.ntmps97 hT fun a I=>?_;unfold cH at B;refine kB I fun d e a w O I=>?_;refine al I fun a I=>?_;refine aM (J:=fun a w=>∃ (b:Bool),St L No T 16 [(2,.bool b)] [] [] a w/\jO b=some y) ?_ ?_
 ·exact fz
 rintro a w ⟨b,I,B⟩;unfold jO at B;exact fz
def jN (b c:ae):=cond (decide (b.k<c.k)) (some ((-1))) (cond (decide (c.k<b.k)) (some (1)) ((rL b.t c.t).bind fun d=>some (d)))
theorem lE (hLv:fi T L) (b c:ae) (y:Int) (B:jN b c=some y):bc aO No 99 [.agg (bf b).toArray,.agg (bf c).toArray] L (fun v w'=>v=am y):=by
 refine en Tryz.func99 Tryz.ntmps99 hT fun a I=>?_;replace I:=I.fact cc (fi.dn hLv);unfold jN at B;refine kB I fun g i a w O I=>?_;refine kb I fun h j a w O I=>?_;refine al I fun a I=>?_;refine ay ?_;refine al I fun a I=>?_;rcases cd B with⟨e,B⟩|⟨e,B⟩
 ·exact fz
 refine al I fun a I=>?_;rcases cd B with⟨f,B⟩|⟨f,B⟩
 ·exact fz
 refine al I fun a I=>?_;obtain⟨k,d,B⟩:=bd B;refine kE I EB (qn _ _ I.dlt I.g0 b.t c.t _ d) fun w a I=>?_;exact fz
def gn (b:Bool):=some (b)
def rA (b:Int):=cond (b==7) (gn true) (cond (b==14) (gn true) (cond (b==17) (gn true) (gn (b==18))))
theorem Bj (c:Int) (y:Bool) (B:rA c=some y):bc aO No 187 [am c] L (fun v w'=>v = .bool y):=by
 refine en Tryz.func187 Tryz.ntmps187 hT fun a I=>?_;unfold rA at B;refine al I fun a I=>?_;refine aM (J:=fun a w=>∃ (b:Bool),St L No T 17 [(2,.bool b)] [] [] a w/\gn b=some y) ?_ ?_
 ·exact fz
 rintro a w ⟨b,I,B⟩;unfold gn at B;exact fz
def gp (b:Bool):=some (b)
def cU (b:ae):=cond (b.k==32) (gp true) (cond (decide ((1:Int)<=b.k)) (cond (decide (b.k<=22)) ((rA b.k).bind fun c=>gp c) (gp false)) (gp false))
theorem dp (d:ae) (y:Bool) (B:cU d=some y):bc aO No 143 [.agg (bf d).toArray] L (fun v w'=>v = .bool y):=by
 refine en Tryz.func143 Tryz.ntmps143 hT fun a I=>?_;unfold cU at B;refine kB I fun h i a w O I=>?_;refine al I fun a I=>?_;refine aM (J:=fun a w=>∃ (b:Bool),St L No T 21 [(2,.bool b)] [] [] a w/\gp b=some y) ?_ ?_
 ·refine al I fun a I=>?_;rcases cd B with⟨f,B⟩|⟨f,B⟩
  ·exact fz
  refine al I fun a I=>?_;rcases cd B with⟨g,B⟩|⟨g,B⟩
  ·refine al I fun a I=>?_;rcases cd B with⟨c,B⟩|⟨c,B⟩
   ·refine al I fun a I=>?_;obtain⟨j,e,B⟩:=bd B;refine wg I rfl rfl rfl c (bL I PE rfl rfl (Bj _ _ I.dlt d.k _ e) fun _ w C a O U=>?_);obtain rfl:=C;have I:=fp U;exact fz
   exact fz
  exact fz
 rintro a w ⟨b,I,B⟩;unfold gp at B;exact fz
def cW (b:Bool):=some (b)
def lL (b:aA):=(cV b.d).bind fun e=>cond e ((cH b.d).bind fun f=>cond (!(f)) (cond (decide (((b.u.size:Int):Int)<=1073741824)) (cond (decide ((b.v.length:Int)<=4000)) (cond (decide ((0:Int)<=b.c)) (cond (decide (b.c<=b.l)) (cond (decide (b.l<=1073741824)) (cond (decide ((1:Int)<=b.j)) (cond (decide (b.j<=1073741824)) (cond (!(b.d1)) (cW true) ((cU b.d).bind fun g=>cW g)) (cW false)) (cW false)) (cW false)) (cW false)) (cW false)) (cW false)) (cW false)) (cW false)) (cW false)
def lM (c:aA) (b:Int):Option (Fl (Int) (Fl (Unit) Bool)):=cond (decide (b<(c.v.length:Int))) ((bG c.v b).bind fun d=>(cV d).bind fun e=>cond (!(e)) (some (.out (.out false))) (some (.go (IntKind.i64.wrap (b+1))))) (some (.out (.go ())))
def qC (b:aA):=(loop (fun s:Int=>lM b s) 0).bind fun r=>Fl.el r (fun s=>lL b) (fun y=>some (y))
theorem Cg (b:aA) (g:Value) (G:aG ac T L g b.v) (y:Bool) (B:qC b=some y):bc aO No 169 [.agg (bx b g).toArray] L (fun v w'=>v = .bool y):=by
 refine en Tryz.func169 Tryz.ntmps169 hT fun a I=>?_;replace I:=I.fS (aG.dn G);unfold qC at B;refine kB I fun c P a w O I=>?_;refine al I fun a I=>?_;refine aM (J:=fun a w=>St L No T 74 [(1,pt c 0)] [.box c (bx b g) 33] [aQ ac g b.v] a w/\lL b=some y) ?_ ?_
 ·refine al I fun a I=>?_;obtain⟨Z,F,hMo1⟩:=bd B;refine bF _ (fun s a w=>∃ (e:Int),e=s/\St L No T 74 [(1,pt c 0),(6,g),(7,am (b.v.length:Int)),(8,am e)] [.box c (bx b g) 33] [aQ ac g b.v] a w) F ⟨_,rfl,I.mt [0] [0]⟩ ?_;rintro s a w N ⟨e,rfl,I⟩ B hf1;have B:lM b e=some N:=B;unfold lM at B;refine al I fun a I=>?_;refine ay ?_;rcases cd B with⟨p,B⟩|⟨p,B⟩
  ·refine al I fun a I=>?_;refine ay ?_;refine al I fun a I=>?_;obtain⟨o,j,B⟩:=bd B;refine wl rfl (bz (R:=ac) I qQ ix rfl rfl 0 rfl j rfl fun H S M q a I=>?_);obtain rfl:=q;refine kA I iA fun K Q a w O I=>?_;refine go I fun a w I=>?_;obtain⟨Y,n,B⟩:=bd B;refine kE I F8 (jn _ _ I.dlt o _ n) fun w a I=>?_;exact fz
  exact fz
 rintro a w ⟨I,B⟩;unfold lL at B;refine aM (J:=fun a w=>∃ (f:Bool),St L No T 74 [(2,.bool f)] [] [] a w/\cW f=some y) ?_ ?_
 ·refine al I fun a I=>?_;obtain⟨V,k,B⟩:=bd B;refine kF I F8 (jn _ _ I.dlt b.d _ k) fun w a I=>?_;rcases cd B with⟨h,B⟩|⟨h,B⟩
  ·refine al I fun a I=>?_;obtain⟨W,l,B⟩:=bd B;refine wg I rfl rfl rfl h (bL I yN rfl rfl (dE _ _ I.dlt b.d _ l) fun _ w C a O U=>?_);obtain rfl:=C;have I:=fp U;refine al I fun a I=>?_;rcases cd B with⟨r,B⟩|⟨r,B⟩
   ·refine al I fun a I=>?_;rcases cd B with⟨t,B⟩|⟨t,B⟩
    ·refine al I fun a I=>?_;rcases cd B with⟨u,B⟩|⟨u,B⟩
     ·refine al I fun a I=>?_;rcases cd B with⟨x,B⟩|⟨x,B⟩
      ·refine al I fun a I=>?_;rcases cd B with⟨z,B⟩|⟨z,B⟩
       ·refine al I fun a I=>?_;rcases cd B with⟨A,B⟩|⟨A,B⟩
        ·refine al I fun a I=>?_;rcases cd B with⟨D,B⟩|⟨D,B⟩
         ·refine al I fun a I=>?_;rcases cd B with⟨E,B⟩|⟨E,B⟩
          ·refine al I fun a I=>?_;rcases cd B with⟨i,B⟩|⟨i,B⟩
           ·exact fz
           refine al I fun a I=>?_;obtain⟨X,m,B⟩:=bd B;refine wg I rfl rfl rfl i (bL I tG rfl rfl (dp _ _ I.dlt b.d _ m) fun _ w C a O U=>?_);obtain rfl:=C;have I:=fp U;exact fz
          exact fz
         exact fz
        exact fz
       exact fz
      exact fz
     exact fz
    exact fz
   exact fz
  exact fz
 rintro a w ⟨f,I,B⟩;unfold cW at B;exact fz
def nV (b:LR):=some (decide ((b.length:Int)<=4000))
def eL (b:Int) (c:Bool):Option (Fl (Int) (Fl (Unit) Bool)):=cond c (some (.out (.out false))) (some (.go (IntKind.i64.wrap (b+1))))
def io (e:LR) (b:Int):=cond (decide (b<(e.length:Int))) ((bG e b).bind fun c=>(qC c).bind fun g=>cond (!(g)) (eL b true) (cond (decide ((0:Int)<b)) ((bG e (IntKind.i64.wrap (b-1))).bind fun f=>(jN f.d c.d).bind fun h=>eL b (decide ((0:Int)<=h))) (eL b false))) (some (.out (.go ())))
def kK (b:LR):=(loop (fun s:Int=>io b s) 0).bind fun r=>Fl.el r (fun s=>nV b) (fun y=>some (y))
theorem yf (hLv:fi T L) (b:LR) (e:Value) (F:aG aa T L e b) (y:Bool) (B:kK b=some y):bc aO No 111 [e] L (fun v w'=>v = .bool y):=by
 refine en Tryz.func111 Tryz.ntmps111 hT fun a I=>?_;replace I:=(I.fact cc (fi.dn hLv)).fS (aG.dn F);unfold kK at B;refine al I fun a I=>?_;refine aM (J:=fun a w=>St L No T 35 [(0,e)] [] [aQ aa e b,cc] a w/\nV b=some y) ?_ ?_
 ·refine al I fun a I=>?_;obtain⟨X,E,hMo1⟩:=bd B;refine bF _ (fun s a w=>∃ (c:Int),c=s/\St L No T 35 [(0,e),(5,e),(6,am (b.length:Int)),(7,am c)] [] [aQ aa e b,cc] a w) E ⟨_,rfl,I.mt [] [0,1]⟩ ?_;rintro s a w D ⟨c,rfl,I⟩ B hf1;have B:io b c=some D:=B;unfold io at B;refine al I fun a I=>?_;refine ay ?_;rcases cd B with⟨r,B⟩|⟨r,B⟩
  ·refine al I fun a I=>?_;refine ay ?_;refine al I fun a I=>?_;obtain⟨h,j,B⟩:=bd B;refine wl rfl (bz (R:=aa) I rb ow rfl rfl 0 rfl j rfl fun G P K t a I=>?_);obtain⟨V,rfl,n⟩:=t;replace I:=I.fS n;refine kA I ge fun H N a w O I=>?_;refine go I fun a w I=>?_;refine aM (J:=fun a w=>∃ (f:Bool),St L No T 35 [(0,e),(5,e),(6,am (b.length:Int)),(7,am c),(30,.bool f)] [] [aQ aa e b,cc] a w/\eL c f=some D) ?_ ?_
   ·refine dr [] I fun w hQ I=>?_;refine gE [0] I fun a I=>?_;obtain⟨Q,l,B⟩:=bd B;refine ec 1 I Pr (Cg _ _ I.dlt h _ I.g0 _ l) fun _ w C a O U=>?_;obtain rfl:=C;have I:=fp U;refine gE [2,3] I fun a I=>?_;rcases cd B with⟨u,B⟩|⟨u,B⟩
    ·refine gE [4,5,6,7,8,9,10,11,12,13,14,15,16,17,18] I fun a I=>?_;refine eD ?_;exact fin
    refine gE [4,5,6] I fun a I=>?_;rcases cd B with⟨g,B⟩|⟨g,B⟩
    ·refine gE [7,8,9] I fun a I=>?_;obtain⟨q,k,B⟩:=bd B;obtain⟨p,A,M,x,z,I⟩:=mh (R:=aa) I rb ow 2 rfl k;obtain⟨W,rfl,o⟩:=x;replace I:=I.fS o;refine dg 10 I g (v:=pt p A) (z rfl rfl) fun a I=>?_;refine gE [11,12,13,14] I fun a I=>?_;obtain⟨S,m,B⟩:=bd B;refine dW (i:=15) rfl (by kernel_rfl) I rfl rfl rfl g (bL I F9 rfl rfl (lE _ _ I.dlt I.g5 q.d h.d _ m) fun _ w C a O U=>⟨gO (O),?_⟩);obtain rfl:=C;have I:=fp U;refine gE [16,17,18] I fun a I=>?_;refine eD ?_;exact fin
    refine gE [7,8,9,10,11,12,13,14,15,16,17,18] I fun a I=>?_;refine eD ?_;exact fin
   rintro a w ⟨f,I,B⟩;unfold eL at B;exact fz
  exact fz
 rintro a w ⟨I,B⟩;unfold nV at B;exact fz
def jR (b:Bool):=some (b)
def lQ (b:ar):=cond (decide ((0:Int)<=b.r)) (cond (decide (b.r<=1073741824)) (cond (decide ((b.i.length:Int)<=64)) ((kK b.s).bind fun c=>jR c) (jR false)) (jR false)) (jR false)
def lS (c:ar) (b:Int):Option (Fl (Int) (Fl (Unit) Bool)):=cond (decide (b<(c.s.length:Int))) ((bG c.s b).bind fun d=>cond (decide (c.r<d.l)) (some (.out (.out false))) (some (.go (IntKind.i64.wrap (b+1))))) (some (.out (.go ())))
def lR (b:ar):=(loop (fun s:Int=>lS b s) 0).bind fun r=>Fl.el r (fun s=>lQ b) (fun y=>some (y))
def dt (b:Int) (c:Bool):Option (Fl (Int) (Fl (Unit) Bool)):=cond c (some (.out (.out false))) (some (.go (IntKind.i64.wrap (b+1))))
def lT (f:ar) (b:Int):=cond (decide (b<(f.i.length:Int))) ((bG f.i b).bind fun e=>(cV e.d).bind fun h=>cond (!(h)) (dt b true) ((cH e.d).bind fun j=>cond (!(j)) (dt b true) (cond (decide ((0:Int)<b)) ((bG f.i (IntKind.i64.wrap (b-1))).bind fun g=>(jN g.d e.d).bind fun k=>cond (decide ((0:Int)<=k)) (dt b true) (cond (decide ((1073741824:Int)<(e.u.size:Int))) (dt b true) (cond (decide (e.c<0)) (dt b true) (dt b (decide (f.r<e.c)))))) (cond (decide ((1073741824:Int)<(e.u.size:Int))) (dt b true) (cond (decide (e.c<0)) (dt b true) (dt b (decide (f.r<e.c)))))))) (some (.out (.go ())))
def lP (b:ar):=(loop (fun s:Int=>lT b s) 0).bind fun r=>Fl.el r (fun s=>lR b) (fun y=>some (y))
theorem tl (hLv:fi T L) (b:ar) (e g:Value) (a3:aG ab T L e b.i) (a4:aG aa T L g b.s) (y:Bool) (B:lP b=some y):bc aO No 32 [.agg (bo b e g).toArray] L (fun v w'=>v = .bool y):=by
 refine en Tryz.func32 Tryz.ntmps32 hT fun a I=>?_;replace I:=((I.fact cc (fi.dn hLv)).fS (aG.dn a3)).fS (aG.dn a4);unfold lP at B;refine kB I fun c b2 a w O I=>?_;refine al I fun a I=>?_;refine aM (J:=fun a w=>St L No T 93 [(1,pt c 0)] [.box c (bo b e g) 25] [aQ ab e b.i,aQ aa g b.s,cc] a w/\lR b=some y) ?_ ?_
 ·refine al I fun a I=>?_;obtain⟨r1,p,hMo1⟩:=bd B;refine bF _ (fun s a w=>∃ (f:Int),f=s/\St L No T 93 [(1,pt c 0),(8,e),(9,am (b.i.length:Int)),(10,am f)] [.box c (bo b e g) 25] [aQ ab e b.i,aQ aa g b.s,cc] a w) p ⟨_,rfl,I.mt [0] [1,0,2]⟩ ?_;rintro s a w q ⟨f,rfl,I⟩ B hf1;have B:lT b f=some q:=B;unfold lT at B;refine al I fun a I=>?_;refine ay ?_;rcases cd B with⟨H,B⟩|⟨H,B⟩
  ·refine al I fun a I=>?_;refine ay ?_;refine al I fun a I=>?_;obtain⟨j,t,B⟩:=bd B;refine wl rfl (bz (R:=ab) I Cu BJ rfl rfl 0 rfl t rfl fun a5 b5 ak K a I=>?_);obtain rfl:=K;refine kA I wE fun a9 b3 a w O I=>?_;refine go I fun a w I=>?_;refine aM (J:=fun a w=>∃ (l:Bool),St L No T 93 [(1,pt c 0),(8,e),(9,am (b.i.length:Int)),(10,am f),(59,.bool l)] [.box c (bo b e g) 25] [aQ ab e b.i,aQ aa g b.s,cc] a w/\dt f l=some q) ?_ ?_
   ·refine dr [] I fun w hQ I=>?_;refine gE [0,1] I fun a I=>?_;obtain⟨bb,z,B⟩:=bd B;refine ec 2 I F8 (jn _ _ I.dlt j.d _ z) fun _ w C a O U=>?_;obtain rfl:=C;have I:=fp U;refine gE [3,4] I fun a I=>?_;rcases cd B with⟨n,B⟩|⟨n,B⟩
    ·refine gE [5,6,7,8,9,10,11,12,13,14,15,16,17,18,19,20,21,22,23,24,25,26,27,28,29,30,31,32,33,34,35,36,37,38,39,40,41,42,43,44] I fun a I=>?_;refine eD ?_;exact fin
    refine gE [5,6] I fun a I=>?_;obtain⟨bi,A,B⟩:=bd B;refine dW (i:=7) rfl (by kernel_rfl) I rfl rfl rfl n (bL I yN rfl rfl (dE _ _ I.dlt j.d _ A) fun _ w C a O U=>⟨gO (O),?_⟩);obtain rfl:=C;have I:=fp U;refine gE [8,9,10] I fun a I=>?_;rcases cd B with⟨M,B⟩|⟨M,B⟩
    ·refine gE [11,12,13,14,15,16,17,18,19,20,21,22,23,24,25,26,27,28,29,30,31,32,33,34,35,36,37,38,39,40,41,42,43,44] I fun a I=>?_;refine eD ?_;exact fin
    refine gE [11,12,13] I fun a I=>?_;rcases cd B with⟨m,B⟩|⟨m,B⟩
    ·refine gE [14,15,16,17] I fun a I=>?_;obtain⟨G,u,B⟩:=bd B;obtain⟨F,a2,av,N,P,I⟩:=mh (R:=ab) I Cu BJ 1 rfl u;obtain rfl:=N;refine dg 18 I m (v:=pt F a2) (P rfl rfl) fun a I=>?_;refine gE [19,20,21,22] I fun a I=>?_;obtain⟨bl,D,B⟩:=bd B;refine dW (i:=23) rfl (by kernel_rfl) I rfl rfl rfl m (bL I F9 rfl rfl (lE _ _ I.dlt I.g4 G.d j.d _ D) fun _ w C a O U=>⟨gO (O),?_⟩);obtain rfl:=C;have I:=fp U;refine gE [24,25,26,27] I fun a I=>?_;rcases cd B with⟨Q,B⟩|⟨Q,B⟩
     ·refine gE [28,29,30,31,32,33,34,35,36,37,38,39,40,41,42,43,44] I fun a I=>?_;refine eD ?_;exact fin
     refine gE [28,29,30,31,32,33] I fun a I=>?_;rcases cd B with⟨S,B⟩|⟨S,B⟩
     ·refine gE [34,35,36,37,38,39,40,41,42,43,44] I fun a I=>?_;refine eD ?_;exact fin
     refine gE [34,35,36,37,38] I fun a I=>?_;rcases cd B with⟨V,B⟩|⟨V,B⟩
     ·refine gE [39,40,41,42,43,44] I fun a I=>?_;refine eD ?_;exact fin
     refine gE [39,40,41,42,43,44] I fun a I=>?_;refine eD ?_;exact fin
    refine gE [14,15,16,17,18,19,20,21,22,23,24,25,26,27,28,29,30,31,32,33] I fun a I=>?_;rcases cd B with⟨W,B⟩|⟨W,B⟩
    ·refine gE [34,35,36,37,38,39,40,41,42,43,44] I fun a I=>?_;refine eD ?_;exact fin
    refine gE [34,35,36,37,38] I fun a I=>?_;rcases cd B with⟨X,B⟩|⟨X,B⟩
    ·refine gE [39,40,41,42,43,44] I fun a I=>?_;refine eD ?_;exact fin
    refine gE [39,40,41,42,43,44] I fun a I=>?_;refine eD ?_;exact fin
   rintro a w ⟨l,I,B⟩;unfold dt at B;exact fz
  exact fz
 rintro a w ⟨I,B⟩;unfold lR at B;refine aM (J:=fun a w=>St L No T 93 [(1,pt c 0)] [.box c (bo b e g) 25] [aQ ab e b.i,aQ aa g b.s,cc] a w/\lQ b=some y) ?_ ?_
 ·refine al I fun a I=>?_;obtain⟨r1,p,hMo1⟩:=bd B;refine bF _ (fun s a w=>∃ (h:Int),h=s/\St L No T 93 [(1,pt c 0),(62,g),(63,am (b.s.length:Int)),(64,am h)] [.box c (bo b e g) 25] [aQ aa g b.s,aQ ab e b.i,cc] a w) p ⟨_,rfl,I.mt [0] [1,0,2]⟩ ?_;rintro s a w q ⟨h,rfl,I⟩ B hf1;have B:lS b h=some q:=B;unfold lS at B;refine al I fun a I=>?_;refine ay ?_;rcases cd B with⟨Y,B⟩|⟨Y,B⟩
  ·refine al I fun a I=>?_;refine ay ?_;refine al I fun a I=>?_;obtain⟨b1,r,B⟩:=bd B;refine wl rfl (bz (R:=aa) I rb ow rfl rfl 0 rfl r rfl fun af b6 b0 Z a I=>?_);obtain⟨bs,rfl,E⟩:=Z;replace I:=I.fS E;refine kA I ge fun ag b4 a w O I=>?_;exact fz
  exact fz
 rintro a w ⟨I,B⟩;unfold lQ at B;refine aM (J:=fun a w=>∃ (k:Bool),St L No T 93 [(2,.bool k)] [] [cc] a w/\jR k=some y) ?_ ?_
 ·refine al I fun a I=>?_;rcases cd B with⟨a0,B⟩|⟨a0,B⟩
  ·refine al I fun a I=>?_;rcases cd B with⟨a1,B⟩|⟨a1,B⟩
   ·refine al I fun a I=>?_;rcases cd B with⟨o,B⟩|⟨o,B⟩
    ·refine al I fun a I=>?_;obtain⟨b9,x,B⟩:=bd B;refine wg I rfl rfl rfl o (bL I O5 rfl rfl (yf _ _ I.dlt I.g2 b.s _ I.g1 _ x) fun _ w C a O U=>?_);obtain rfl:=C;have I:=fp U;exact fz
    exact fz
   exact fz
  exact fz
 rintro a w ⟨k,I,B⟩;unfold jR at B;exact fz
def tn (b:ae):=some ((be.mk b cg 0))
def gW (e:ar) (f:ae) (c:Int):Option (Fl (Int) (Fl (Unit) be)):=cond (decide (c<(e.i.length:Int))) ((bG e.i c).bind fun b=>cond (b.d.k==f.k&&b.d.t.toList==f.t.toList) (some (.out (.out b))) (some (.go (IntKind.i64.wrap (c+1))))) (some (.out (.go ())))
def pH (c:ar) (b:ae):=(loop (fun s:Int=>gW c b s) 0).bind fun r=>Fl.el r (fun s=>tn b) (fun y=>some (y))
theorem yg (c:ar) (b:ae) (l u:Value) (q:aG ab T L l c.i) (r:aG aa T L u c.s) (y:be) (B:pH c b=some y):bc aO No 151 [.agg (bo c l u).toArray,.agg (bf b).toArray] L (fun v w'=>v = .agg (pu y).toArray):=by
 refine en Tryz.func151 Tryz.ntmps151 hT fun a I=>?_;replace I:=(I.fS (aG.dn q)).fS (aG.dn r);unfold pH at B;refine kB I fun x F a w O I=>?_;refine kb I fun e G a w O I=>?_;refine ka I wE fun f H a w O I=>?_;refine al I fun a I=>?_;refine aM (J:=fun a w=>St L No T 22 [(3,pt e 0),(4,pt f 0)] [.box e (bf b) 30,.box f [am 0,aT cg,aT cg,am 0] 91] [] a w/\tn b=some y) ?_ ?_
 ·refine al I fun a I=>?_;obtain⟨N,p,hMo1⟩:=bd B;refine bF _ (fun s a w=>∃ (g:Int),g=s/\St L No T 22 [(3,pt e 0),(4,pt f 0),(8,l),(9,am (c.i.length:Int)),(10,am g)] [.box e (bf b) 30,.box f [am 0,aT cg,aT cg,am 0] 91] [aQ ab l c.i] a w) p ⟨_,rfl,I.mt [1,0] [1]⟩ ?_;rintro s a w E ⟨g,rfl,I⟩ B hf1;have B:gW c b g=some E:=B;unfold gW at B;refine al I fun a I=>?_;refine ay ?_;rcases cd B with⟨m,B⟩|⟨m,B⟩
  ·refine al I fun a I=>?_;refine ay ?_;refine al I fun a I=>?_;obtain⟨h,j,B⟩:=bd B;refine wl rfl (bz (R:=ab) I Cu BJ rfl rfl 0 rfl j rfl fun z M D n a I=>?_);obtain rfl:=n;refine kA I wE fun A K a w O I=>?_;refine go I fun a w I=>?_;refine wl rfl (ky (v:=.bool (h.d.k==b.k&&h.d.t.toList==b.t.toList)) I (Ge I rfl rfl) rfl rfl fun a I=>?_);refine al I fun a I=>?_;rcases cd B with⟨o,B⟩|⟨o,B⟩
   ·refine go I fun a w I=>?_;cases B
    have hr:=hf1 _ rfl;subst hr;replace hMo1:=ly hMo1;have B:=hMo1;cases B
    refine aE I rfl (rC 2 I) ?_;exact rfl
   exact fz
  exact fz
 rintro a w ⟨I,B⟩;unfold tn at B;refine al I fun a I=>?_;refine qy I (bk (ps:=[(0,.tmp 20)]) I Mc wE rfl (us:=[(bf b)]) ⟨rfl,trivial⟩ (ws:=[am b.k,aT b.t,aT cg,am 0]) rfl) fun a I=>?_;refine go I fun a w I=>?_;cases B
 refine aE I rfl (rC 1 I) ?_;exact rfl
def ob (c:ar) (d:ae):=(pH c d).bind fun b=>some (b.u)
theorem sU (b:ar) (c:ae) (g h:Value) (e:aG ab T L g b.i) (f:aG aa T L h b.s) (y:ByteArray) (B:ob b c=some y):bc aO No 98 [.agg (bo b g h).toArray,.agg (bf c).toArray] L (fun v w'=>v=aT y):=by
 refine en Tryz.func98 Tryz.ntmps98 hT fun a I=>?_;replace I:=(I.fS (aG.dn e)).fS (aG.dn f);unfold ob at B;refine kB I fun j l a w O I=>?_;refine kb I fun k m a w O I=>?_;refine al I fun a I=>?_;obtain⟨n,d,B⟩:=bd B;refine kE I MV (yg _ _ I.dlt b c _ _ I.g1 I.g0 _ d) fun w a I=>?_;refine qy I (FB I rfl Tryz.underlying91 rfl rfl Ld rfl rfl (fun _=>rfl)) fun a I=>?_;exact fz
def lO (b c:ar) (e:Bool) (d:LI):Option (ar×Int):=cond (!(e)) (some ((b,0))) (cond (decide ((64:Int)<(d.length:Int))) (some ((b,45))) (cond (decide ((1073741824:Int)<(IntKind.i64.wrap (c.r+1)))) (some ((b,3))) (some (((ar.mk (IntKind.i64.wrap (c.r+1)) d c.s),0)))))
def jQ (c:Int) (b:Bool) (d:LI):Option (Fl (Bool×Int×LI) (Bool×LI)):=some (.go (b,IntKind.i64.wrap (c+1),d))
def f0 (b:Int) (c:LI):=jQ b true c
def f5 (f:ar) (e:Int) (b:eV) (c:LI) (g:Bool):=cond (!(g)) (gd (bW (c.length+([(be.mk b.d b.u (IntKind.i64.wrap (f.r+1)))]).length)) <| f0 e (c++([(be.mk b.d b.u (IntKind.i64.wrap (f.r+1)))]))) (f0 e c)
def f6 (b:Int) (c:LI) (d:Bool):Option (Fl (LI×Bool×Int) (LI×Bool)):=some (.go (c,d,IntKind.i64.wrap (b+1)))
def f7 (d:Int) (c:be) (f:Int) (b:LI) (e:Bool):=cond (f != 0) (gd (bW (b.length+([c]).length)) <| f6 d (b++([c])) e) (f6 d b e)
def f8 (g:ar) (b:eV) (c:LI) (j:Bool) (f:Int) (e:be) (h:Int) (i:Bool):=cond i (gd (bW (c.length+([(be.mk b.d b.u (IntKind.i64.wrap (g.r+1)))]).length)) <| f7 f e h (c++([(be.mk b.d b.u (IntKind.i64.wrap (g.r+1)))])) true) (f7 f e h c j)
def ip (j:ar) (i:LI) (e:eV) (g:LI) (c:Bool) (b:Int):=cond (decide (b<(i.length:Int))) ((bG i b).bind fun f=>(jN f.d e.d).bind fun h=>cond (decide ((0:Int)<=h)) (f8 j e g c b f h (!(c))) (f8 j e g c b f h false)) (some (.out (g,c)))
def oS (i g:ar) (f:Bool) (c:Int) (e:LI) (b:eV) (h:Bool):=cond (!(h)) (jQ c f e) ((ob i b.d).bind fun j=>cond (j.toList==b.u.toList) (jQ c f e) ((loop (fun s:LI×Bool×Int=>ip g e b s.1 s.2.1 s.2.2) (([]:List be),false,0)).bind fun r=>f5 g c b r.1 r.2))
def nF (c:eV) (f:LC) (g:Bool) (b:Int):Option (Fl (Bool×Int) (Bool)):=cond (decide (b<(f.length:Int))) ((bG f b).bind fun e=>cond g (some (.go (!(e.d.k==c.d.k&&e.d.t.toList==c.d.t.toList),IntKind.i64.wrap (b+1)))) (some (.go (false,IntKind.i64.wrap (b+1))))) (some (.out g))
def nG (c:LC) (h i:ar) (d:Bool) (b:Int) (f:LI):=cond (decide (b<(c.length:Int))) ((bG c b).bind fun e=>(tY c (IntKind.i64.wrap (b+1)) c.length).bind fun g=>(loop (fun s:Bool×Int=>nF e g s.1 s.2) (true,0)).bind fun r=>oS h i d b f e r) (some (.out (d,f)))
def kL (d:LC) (b:ar):=(fC b).bind fun c=>(loop (fun s:Bool×Int×LI=>nG d b c s.1 s.2.1 s.2.2) (false,0,c.i)).bind fun r=>lO b c r.1 r.2
def kN (c:LC) (e:ar) (b:Int):Option (Fl (Int) (Fl (Unit) (ar×Int))):=cond (decide (b<(c.length:Int))) ((bG c b).bind fun d=>cond (decide ((1073741824:Int)<(d.u.size:Int))) (some (.out (.out (e,3)))) (some (.go (IntKind.i64.wrap (b+1))))) (some (.out (.go ())))
def kM (c:LC) (b:ar):=(loop (fun s:Int=>kN c b s) 0).bind fun r=>Fl.el r (fun s=>kL c b) (fun y=>some (y))
def kO (f:LC) (e:ar) (b:Int):Option (Fl (Int) (Fl (Unit) (ar×Int))):=cond (decide (b<(f.length:Int))) ((bG f b).bind fun c=>(cV c.d).bind fun g=>cond (!(g)) (some (.out (.out (e,40)))) ((cH c.d).bind fun h=>cond (!(h)) (some (.out (.out (e,40)))) (some (.go (IntKind.i64.wrap (b+1)))))) (some (.out (.go ())))
def lN (e:ar) (c:LC):=(fC e).bind fun b=>(lP b).bind fun d=>cond (!(d)) (some ((b,42))) (cond (decide ((32:Int)<(c.length:Int))) (some ((b,3))) ((loop (fun s:Int=>kO c b s) 0).bind fun r=>Fl.el r (fun s=>kM c b) (fun y=>some (y))))
theorem ti (hLv:fi T L) (af:ar) (m:LC) (v1 v2 p:Value) (h5:aG ab T L v1 af.i) (h6:aG aa T L v2 af.s) (h7:aG bA T L p m) (y:ar×Int) (B:lN af m=some y):bc aO No 29 [.agg (bo af v1 v2).toArray,p] L (fun v w'=>∃ (v4:Value) (uf:bC) (v6:Value) (rK:bC),v = .tuple #[.agg (bo y.1 v4 v6).toArray,am y.2]/\j9 ab T L w' [a7 v4 uf,aJ v6 rK] 91 v4 uf y.1.i/\j9 aa T L w' [a7 v4 uf,aJ v6 rK] 33 v6 rK y.1.s/\(∀ k,v4.ownBlock=some k->v6.ownBlock≠some k)):=by
 refine en Tryz.func29 Tryz.ntmps29 hT fun a I=>?_;replace I:=(((I.fact cc (fi.dn hLv)).fS (aG.dn h5)).fS (aG.dn h6)).fS (aG.dn h7);unfold lN at B;refine kB I fun n hz a w O I=>?_;refine ka I ph fun o hA a w O I=>?_;refine al I fun a I=>?_;obtain⟨b,e4,B⟩:=bd B;refine kc I AK (e6 _ _ I.dlt af _ _ I.g2 I.g1 _ e4) fun _ w C a O U=>?_;obtain⟨e,j,f,l,he,d1,d2,d0⟩:=C;obtain rfl:=he.symm;have I:=BV U d1 d2 d0;refine go I fun a w I=>?_;refine ay ?_;refine al I fun a I=>?_;have hL:=I;replace hL:=hL.zf (R:=ab) 0 rfl 1 rfl;replace hL:=hL.zf (R:=aa) 0 rfl 1 rfl;obtain⟨i2,eq,B⟩:=bd B;refine kF I NS (tl _ _ hL.dlt hL.g7 b _ _ hL.g1 hL.g0 _ eq) fun w a I=>?_;rcases cd B with⟨er,B⟩|⟨er,B⟩
 ·refine go I fun a w I=>?_;cases B
  refine aE I Tryz.results29 (bu I rfl 2 rfl gF rfl (fun h=>by cases h) (ap I rfl aC)) ?_;exact⟨e,j,f,l,rfl,I.zo ⟨.inr (aK (i:=0) rfl),⟨.inr (aK (i:=1) rfl),trivial⟩⟩ 0 rfl 1 rfl,I.zo ⟨.inr (aK (i:=0) rfl),⟨.inr (aK (i:=1) rfl),trivial⟩⟩ 1 rfl 0 rfl,(I.zp 0 rfl 1 rfl (by decide))⟩
 refine al I fun a I=>?_;rcases cd B with⟨et,B⟩|⟨et,B⟩
 ·refine go I fun a w I=>?_;cases B
  refine aE I Tryz.results29 (bu I rfl 2 rfl gF rfl (fun h=>by cases h) (ap I rfl aC)) ?_;exact⟨e,j,f,l,rfl,I.zo ⟨.inr (aK (i:=0) rfl),⟨.inr (aK (i:=1) rfl),trivial⟩⟩ 0 rfl 1 rfl,I.zo ⟨.inr (aK (i:=0) rfl),⟨.inr (aK (i:=1) rfl),trivial⟩⟩ 1 rfl 0 rfl,(I.zp 0 rfl 1 rfl (by decide))⟩
 refine al I fun a I=>?_;refine aM (J:=fun a w=>St L No T 172 [(1,p),(2,pt n 0),(4,pt o 0)] [a7 e j,aJ f l,.box n (bo b e f) 25,.box o [am 0,.slice none 0 0,.slice none 0 0] 25] [aQ bA p m,ao ab j b.i,ao aa l b.s,cc] a w/\kM m b=some y) ?_ ?_
 ·refine al I fun a I=>?_;obtain⟨r1,ag,hMo1⟩:=bd B;refine bF _ (fun s a w=>∃ (a1:Int),a1=s/\St L No T 172 [(1,p),(2,pt n 0),(4,pt o 0),(34,p),(35,am (m.length:Int)),(36,am a1)] [a7 e j,aJ f l,.box n (bo b e f) 25,.box o [am 0,.slice none 0 0,.slice none 0 0] 25] [aQ bA p m,ao ab j b.i,ao aa l b.s,cc] a w) ag ⟨_,rfl,I.mt [0,1,3,2] [2,1,0,5]⟩ ?_;rintro s a w W ⟨a1,rfl,I⟩ B hf1;have B:kO m b a1=some W:=B;unfold kO at B;refine al I fun a I=>?_;refine ay ?_;rcases cd B with⟨ew,B⟩|⟨ew,B⟩
  ·refine al I fun a I=>?_;refine ay ?_;refine al I fun a I=>?_;obtain⟨ck,e2,B⟩:=bd B;refine wl rfl (bz (R:=bA) I IJ C2 rfl rfl 0 rfl e2 rfl fun hc hI ho ex a I=>?_);obtain rfl:=ex;refine kA I BU fun hd hB a w O I=>?_;refine go I fun a w I=>?_;refine dN ?_;refine al I fun a I=>?_;obtain⟨i0,ed,B⟩:=bd B;refine kF I F8 (jn _ _ I.dlt ck.d _ ed) fun w a I=>?_;rcases cd B with⟨cl,B⟩|⟨cl,B⟩
   ·refine go I fun a w I=>?_;cases B
    have hr:=hf1 _ rfl;subst hr;replace hMo1:=ly hMo1;have B:=hMo1;cases B
    refine aE I Tryz.results29 (bu I rfl 4 rfl gF rfl (fun h=>by cases h) (ap I rfl aC)) ?_;exact⟨e,j,f,l,rfl,I.zo ⟨.inr (aK (i:=1) rfl),⟨.inr (aK (i:=2) rfl),trivial⟩⟩ 1 rfl 2 rfl,I.zo ⟨.inr (aK (i:=1) rfl),⟨.inr (aK (i:=2) rfl),trivial⟩⟩ 2 rfl 3 rfl,(I.zp 1 rfl 2 rfl (by decide))⟩
   refine al I fun a I=>?_;obtain⟨i1,el,B⟩:=bd B;refine wg I rfl rfl rfl cl (bL I yN rfl rfl (dE _ _ I.dlt ck.d _ el) fun _ w C a O U=>?_);obtain rfl:=C;have I:=fp U;refine al I fun a I=>?_;rcases cd B with⟨f3,B⟩|⟨f3,B⟩
   ·refine go I fun a w I=>?_;cases B
    have hr:=hf1 _ rfl;subst hr;replace hMo1:=ly hMo1;have B:=hMo1;cases B
    refine aE I Tryz.results29 (bu I rfl 4 rfl gF rfl (fun h=>by cases h) (ap I rfl aC)) ?_;exact⟨e,j,f,l,rfl,I.zo ⟨.inr (aK (i:=1) rfl),⟨.inr (aK (i:=2) rfl),trivial⟩⟩ 1 rfl 2 rfl,I.zo ⟨.inr (aK (i:=1) rfl),⟨.inr (aK (i:=2) rfl),trivial⟩⟩ 2 rfl 3 rfl,(I.zp 1 rfl 2 rfl (by decide))⟩
   exact fz
  exact fz
 rintro a w ⟨I,B⟩;unfold kM at B;refine aM (J:=fun a w=>St L No T 172 [(1,p),(2,pt n 0),(4,pt o 0)] [a7 e j,aJ f l,.box n (bo b e f) 25,.box o [am 0,.slice none 0 0,.slice none 0 0] 25] [aQ bA p m,ao ab j b.i,ao aa l b.s,cc] a w/\kL m b=some y) ?_ ?_
 ·refine al I fun a I=>?_;obtain⟨r1,ag,hMo1⟩:=bd B;refine bF _ (fun s a w=>∃ (a0:Int),a0=s/\St L No T 172 [(1,p),(2,pt n 0),(4,pt o 0),(52,p),(53,am (m.length:Int)),(54,am a0)] [a7 e j,aJ f l,.box n (bo b e f) 25,.box o [am 0,.slice none 0 0,.slice none 0 0] 25] [aQ bA p m,ao ab j b.i,ao aa l b.s,cc] a w) ag ⟨_,rfl,I.mt [0,1,2,3] [0,1,2,3]⟩ ?_;rintro s a w W ⟨a0,rfl,I⟩ B hf1;have B:kN m b a0=some W:=B;unfold kN at B;refine al I fun a I=>?_;refine ay ?_;rcases cd B with⟨f4,B⟩|⟨f4,B⟩
  ·refine al I fun a I=>?_;refine ay ?_;refine al I fun a I=>?_;obtain⟨hy,e0,B⟩:=bd B;refine wl rfl (bz (R:=bA) I IJ C2 rfl rfl 0 rfl e0 rfl fun hf hK hp fd a I=>?_);obtain rfl:=fd;refine kA I BU fun hg hC a w O I=>?_;refine go I fun a w I=>?_;rcases cd B with⟨fl,B⟩|⟨fl,B⟩
   ·refine go I fun a w I=>?_;cases B
    have hr:=hf1 _ rfl;subst hr;replace hMo1:=ly hMo1;have B:=hMo1;cases B
    refine aE I Tryz.results29 (bu I rfl 4 rfl gF rfl (fun h=>by cases h) (ap I rfl aC)) ?_;exact⟨e,j,f,l,rfl,I.zo ⟨.inr (aK (i:=1) rfl),⟨.inr (aK (i:=2) rfl),trivial⟩⟩ 1 rfl 2 rfl,I.zo ⟨.inr (aK (i:=1) rfl),⟨.inr (aK (i:=2) rfl),trivial⟩⟩ 2 rfl 3 rfl,(I.zp 1 rfl 2 rfl (by decide))⟩
   exact fz
  exact fz
 rintro a w ⟨I,B⟩;unfold kL at B;refine al I fun a I=>?_;have hZ:=I;replace I:=(I.zf (R:=ab) 0 rfl 1 rfl).zf (R:=aa) 0 rfl 3 rfl;have hY:St L No T 172 [] ([a7 e j,aJ f l]++[.box n (bo b e f) 25,.box o [am 0,.slice none 0 0,.slice none 0 0] 25]) [aQ bA p m,ao ab j b.i,ao aa l b.s,cc] _ _:=hZ.meet [0,1,2,3] (by decide) trivial ⟨rfl,rfl,rfl,rfl,trivial⟩ ⟨⟨0,rfl⟩,⟨1,rfl⟩,⟨2,rfl⟩,⟨3,rfl⟩,trivial⟩;replace I:=I.snap hY;obtain⟨g,e5,B⟩:=bd B;refine kc I AK (e6 _ _ I.dlt b _ _ I.g2 I.g1 _ e5) fun _ w C a O U=>?_;obtain⟨i3,hq,z,q,he,d3,d4,d0⟩:=C;obtain rfl:=he.symm;have I:=BV U d3 d4 d0;refine ka I ph fun D hD a w O I=>?_;refine go I fun a w I=>?_;refine aM (J:=fun a w=>∃ (ak:Bool) (bi:LI) (a9:Value) (Y:LV),St L No T 172 [(2,pt n 0),(4,pt o 0),(10,pt D 0),(11,.bool ak)] [.box n (bo b e f) 25,.box o [am 0,.slice none 0 0,.slice none 0 0] 25,a7 a9 Y,aJ z q,.box D [am (IntKind.i64.wrap (g.r+1)),a9,z] 25] [aQ ab e b.i,aQ aa f b.s,ao ab Y bi,ao aa q g.s,cc,qj L No [a7 e j,aJ f l] [aQ bA p m,ao ab j b.i,ao aa l b.s,cc]] a w/\lO b g ak bi=some y) ?_ ?_
 ·refine al I fun a I=>?_;obtain⟨r1,ag,hMo1⟩:=bd B;refine bF _ (fun s a w=>∃ (N:Bool) (G:Int) (F:LI) (A:Value) (E:LV),(N,G,F)=s/\St L No T 172 [(1,p),(2,pt n 0),(4,pt o 0),(10,pt D 0),(11,.bool N),(70,p),(71,am (m.length:Int)),(72,am G)] [.box n (bo b e f) 25,.box o [am 0,.slice none 0 0,.slice none 0 0] 25,a7 A E,aJ z q,.box D [am (IntKind.i64.wrap (g.r+1)),A,z] 25] [aQ bA p m,aQ ab e b.i,aQ aa f b.s,ao ab E F,ao aa q g.s,cc,qj L No [a7 e j,aJ f l] [aQ bA p m,ao ab j b.i,ao aa l b.s,cc]] a w) ag ⟨_,_,_,_,_,rfl,I.mt [3,4,1,2,0] [5,4,3,1,0,8,2]⟩ ?_;rintro s a w W ⟨N,G,F,A,E,rfl,I⟩ B hf1;have B:nG m b g N G F=some W:=B;unfold nG at B;refine al I fun a I=>?_;refine ay ?_;rcases cd B with⟨fn,B⟩|⟨fn,B⟩
  ·refine al I fun a I=>?_;refine aM (J:=fun a w=>∃ (av:Bool) (bl:LI) (c2:Value) (b0:LV),St L No T 172 [(1,p),(2,pt n 0),(4,pt o 0),(10,pt D 0),(11,.bool av),(70,p),(71,am (m.length:Int)),(72,am G)] [.box n (bo b e f) 25,.box o [am 0,.slice none 0 0,.slice none 0 0] 25,a7 c2 b0,aJ z q,.box D [am (IntKind.i64.wrap (g.r+1)),c2,z] 25] [aQ bA p m,aQ ab e b.i,aQ aa f b.s,ao ab b0 bl,ao aa q g.s,cc,qj L No [a7 e j,aJ f l] [aQ bA p m,ao ab j b.i,ao aa l b.s,cc]] a w/\jQ G av bl=some W) ?_ ?_
   ·refine al I fun a I=>?_;obtain⟨c,d9,B⟩:=bd B;refine wl rfl (bz (R:=bA) I IJ C2 rfl rfl 0 rfl d9 rfl fun hh hM hs fr a I=>?_);obtain rfl:=fr;refine kA I BU fun H hE a w O I=>?_;refine go I fun a w I=>?_;refine aM (J:=fun a w=>∃ (b9:Bool),St L No T 172 [(1,p),(2,pt n 0),(4,pt o 0),(10,pt D 0),(11,.bool N),(13,pt H 0),(14,.bool b9),(70,p),(71,am (m.length:Int)),(72,am G)] [.box n (bo b e f) 25,.box o [am 0,.slice none 0 0,.slice none 0 0] 25,a7 A E,aJ z q,.box D [am (IntKind.i64.wrap (g.r+1)),A,z] 25,.box H (oz c) 153] [aQ bA p m,aQ ab e b.i,aQ aa f b.s,ao ab E F,ao aa q g.s,cc,qj L No [a7 e j,aJ f l] [aQ bA p m,ao ab j b.i,ao aa l b.s,cc]] a w/\oS b g N G F c b9=some W) ?_ ?_
    ·refine al I fun a I=>?_;obtain⟨bb,e3,B⟩:=bd B;refine wl rfl (Qf (R:=bA) (k2:=.i64) I IJ C2 rfl (.inl ⟨_,rfl,rfl⟩) (.inr ⟨rfl,rfl⟩) 1 rfl e3 rfl fun d6 a I=>?_);refine al I fun a I=>?_;obtain⟨r2,d5,hMo2⟩:=bd B;refine bF _ (fun s a w=>∃ (a4:Bool) (Z:Int),(a4,Z)=s/\St L No T 172 [(1,p),(2,pt n 0),(4,pt o 0),(10,pt D 0),(11,.bool N),(13,pt H 0),(14,.bool a4),(70,p),(71,am (m.length:Int)),(72,am G),(80,d6),(81,am (bb.length:Int)),(82,am Z)] [.box n (bo b e f) 25,.box o [am 0,.slice none 0 0,.slice none 0 0] 25,a7 A E,aJ z q,.box D [am (IntKind.i64.wrap (g.r+1)),A,z] 25,.box H (oz c) 153] [aQ bA p m,aQ bA d6 bb,aQ ab e b.i,aQ aa f b.s,ao ab E F,ao aa q g.s,cc,qj L No [a7 e j,aJ f l] [aQ bA p m,ao ab j b.i,ao aa l b.s,cc]] a w) d5 ⟨_,_,rfl,I.mt [1,2,3,4,5,0] [2,0,3,4,5,6,7,8]⟩ ?_;rintro s a w f2 ⟨a4,Z,rfl,I⟩ B hf2;have B:nF c bb a4 Z=some f2:=B;unfold nF at B;refine al I fun a I=>?_;refine ay ?_;rcases cd B with⟨fs,B⟩|⟨fs,B⟩
     ·refine al I fun a I=>?_;refine ay ?_;refine al I fun a I=>?_;obtain⟨ch,ds,B⟩:=bd B;refine wl rfl (bz (R:=bA) I IJ C2 rfl rfl 1 rfl ds rfl fun hi hN ht fM a I=>?_);obtain rfl:=fM;refine kA I BU fun hj hF a w O I=>?_;refine go I fun a w I=>?_;rcases cd B with⟨cs,B⟩|⟨cs,B⟩
      ·refine al I fun a I=>?_;refine wg I rfl rfl rfl cs (ky (v:=.bool (!(ch.d.k==c.d.k&&ch.d.t.toList==c.d.t.toList))) I (AX I rfl rfl) rfl rfl fun a I=>?_);exact fz
      exact fz
     exact fz
    rintro a w ⟨b9,I,B⟩;unfold oS at B;refine ay ?_;refine ay ?_;refine dr [] I fun w hQ I=>?_;refine gE [0,1,2] I fun a I=>?_;rcases cd B with⟨cv,B⟩|⟨cv,B⟩
    ·refine gE [3,4,5,6,7,8,9,10] I fun a I=>?_;refine eD ?_;exact fz
    refine gE [3,4,5,7,8] I fun a I=>?_;obtain⟨hX,eb,B⟩:=bd B;refine dW (i:=6) rfl (by kernel_rfl) I rfl rfl rfl cv (bL I LE rfl rfl (sU _ _ I.dlt b c.d _ _ I.g1 I.g2 _ eb) fun _ w C a O U=>⟨gO (O),?_⟩);obtain rfl:=C;have I:=fp U;refine gE [9,10] I fun a I=>?_;refine eD ?_;refine al I fun a I=>?_;rcases cd B with⟨g3,B⟩|⟨g3,B⟩
    ·exact fz
    refine al I fun a I=>?_;refine aM (J:=fun a w=>∃ (a2:LI) (bs:Bool) (c3:Value) (b1:LV),St L No T 172 [(1,p),(2,pt n 0),(4,pt o 0),(10,pt D 0),(11,.bool true),(13,pt H 0),(17,c3),(18,.bool bs),(70,p),(71,am (m.length:Int)),(72,am G)] [a7 c3 b1,.box n (bo b e f) 25,.box o [am 0,.slice none 0 0,.slice none 0 0] 25,a7 A E,aJ z q,.box D [am (IntKind.i64.wrap (g.r+1)),A,z] 25,.box H (oz c) 153] [aQ bA p m,ao ab b1 a2,aQ ab e b.i,aQ aa f b.s,ao ab E F,ao aa q g.s,cc,qj L No [a7 e j,aJ f l] [aQ bA p m,ao ab j b.i,ao aa l b.s,cc]] a w/\f5 g G c a2 bs=some W) ?_ ?_
    ·refine al I fun a I=>?_;replace I:=I.zn ab 91 (by decide);obtain⟨r2,d5,hMo2⟩:=bd B;refine bF _ (fun s a w=>∃ (P:LI) (Q:Bool) (M:Int) (V:Value) (S:LV),(P,Q,M)=s/\St L No T 172 [(1,p),(2,pt n 0),(4,pt o 0),(10,pt D 0),(11,.bool true),(13,pt H 0),(17,V),(18,.bool Q),(70,p),(71,am (m.length:Int)),(72,am G),(107,A),(108,am (F.length:Int)),(109,am M)] [a7 V S,a7 A E,.box n (bo b e f) 25,.box o [am 0,.slice none 0 0,.slice none 0 0] 25,aJ z q,.box D [am (IntKind.i64.wrap (g.r+1)),A,z] 25,.box H (oz c) 153] [aQ bA p m,ao ab S P,ao ab E F,aQ ab e b.i,aQ aa f b.s,ao aa q g.s,cc,qj L No [a7 e j,aJ f l] [aQ bA p m,ao ab j b.i,ao aa l b.s,cc]] a w) d5 ⟨_,_,_,_,_,rfl,I.mt [0,3,1,2,4,5,6] [1,0,4,2,3,5,6,7]⟩ ?_;rintro s a w f2 ⟨P,Q,M,V,S,rfl,I⟩ B hf2;have B:ip g F c P Q M=some f2:=B;unfold ip at B;refine al I fun a I=>?_;refine ay ?_;rcases cd B with⟨g4,B⟩|⟨g4,B⟩
     ·refine al I fun a I=>?_;refine aM (J:=fun a w=>∃ (b8:LI) (bt:Bool) (c4:Value) (b2:LV),St L No T 172 [(1,p),(2,pt n 0),(4,pt o 0),(10,pt D 0),(11,.bool true),(13,pt H 0),(17,c4),(18,.bool bt),(70,p),(71,am (m.length:Int)),(72,am G),(107,A),(108,am (F.length:Int)),(109,am M)] [a7 c4 b2,a7 A E,.box n (bo b e f) 25,.box o [am 0,.slice none 0 0,.slice none 0 0] 25,aJ z q,.box D [am (IntKind.i64.wrap (g.r+1)),A,z] 25,.box H (oz c) 153] [aQ bA p m,ao ab b2 b8,ao ab E F,aQ ab e b.i,aQ aa f b.s,ao aa q g.s,cc,qj L No [a7 e j,aJ f l] [aQ bA p m,ao ab j b.i,ao aa l b.s,cc]] a w/\f6 M b8 bt=some f2) ?_ ?_
      ·refine al I fun a I=>?_;obtain⟨K,dl,B⟩:=bd B;refine wl rfl (eQ (R:=ab) I Cu BJ rfl rfl 1 rfl 2 rfl dl rfl fun hk hP hV hu g5 g8 g9 a I=>?_);obtain rfl:=g5;refine qy I (cC (k:=0) I BJ 1 rfl g8 g9 rfl id (us:=(pu K)) rfl rfl (fun h=>by cases h)) fun a I=>?_;refine ka I wE fun X hG a w O I=>?_;refine go I fun a w I=>?_;obtain⟨a5,ea,B⟩:=bd B;refine kF I F9 (lE _ _ I.dlt I.g6 K.d c.d _ ea) fun w a I=>?_;refine aM (J:=fun a w=>∃ (a3:LI) (c1:Bool) (c5:Value) (b3:LV),St L No T 172 [(1,p),(2,pt n 0),(4,pt o 0),(10,pt D 0),(11,.bool true),(13,pt H 0),(17,c5),(18,.bool c1),(20,pt X 0),(21,am a5),(70,p),(71,am (m.length:Int)),(72,am G),(107,A),(108,am (F.length:Int)),(109,am M)] [a7 c5 b3,a7 A E,.box n (bo b e f) 25,.box o [am 0,.slice none 0 0,.slice none 0 0] 25,aJ z q,.box D [am (IntKind.i64.wrap (g.r+1)),A,z] 25,.box H (oz c) 153,.box X (pu K) 91] [aQ bA p m,ao ab b3 a3,ao ab E F,aQ ab e b.i,aQ aa f b.s,ao aa q g.s,cc,qj L No [a7 e j,aJ f l] [aQ bA p m,ao ab j b.i,ao aa l b.s,cc]] a w/\f7 M K a5 a3 c1=some f2) ?_ ?_
       ·refine aM (J:=fun a w=>∃ (b5:Bool),St L No T 172 [(1,p),(2,pt n 0),(4,pt o 0),(10,pt D 0),(11,.bool true),(13,pt H 0),(17,V),(18,.bool Q),(20,pt X 0),(21,am a5),(70,p),(71,am (m.length:Int)),(72,am G),(107,A),(108,am (F.length:Int)),(109,am M),(123,.bool b5)] [a7 V S,a7 A E,.box n (bo b e f) 25,.box o [am 0,.slice none 0 0,.slice none 0 0] 25,aJ z q,.box D [am (IntKind.i64.wrap (g.r+1)),A,z] 25,.box H (oz c) 153,.box X (pu K) 91] [aQ bA p m,ao ab S P,ao ab E F,aQ ab e b.i,aQ aa f b.s,ao aa q g.s,cc,qj L No [a7 e j,aJ f l] [aQ bA p m,ao ab j b.i,ao aa l b.s,cc]] a w/\f8 g c P Q M K a5 b5=some f2) ?_ ?_
        ·exact fz
        rintro a w ⟨b5,I,B⟩;unfold f8 at B;rcases cd B with⟨gb,B⟩|⟨gb,B⟩
        ·refine al I fun a I=>?_;refine qy I (bk (ps:=[(0,.tmp 126),(1,.tmp 128),(2,.tmp 130)]) I Mc wE rfl (us:=[(bf c.d),[aT c.u],[am (IntKind.i64.wrap (g.r+1))]]) ⟨rfl,⟨rfl,⟨rfl,trivial⟩⟩⟩ (ws:=[am c.d.k,aT c.d.t,aT c.u,am (IntKind.i64.wrap (g.r+1))]) rfl) fun a I=>?_;refine wl rfl (ba (ps:=[(0,.tmp 131)]) I Dy wE (zl:=[am 0,aT cg,aT cg,am 0]) (by kernel_rfl) rfl (us:=[[am c.d.k,aT c.d.t,aT c.u,am (IntKind.i64.wrap (g.r+1))]]) ⟨rfl,trivial⟩ (ws:=[am c.d.k,aT c.d.t,aT c.u,am (IntKind.i64.wrap (g.r+1))]) rfl rfl rfl rfl fun hl a w O I=>?_);replace I:=(I.lit (R:=ab) (us:=[am c.d.k,aT c.d.t,aT c.u,am (IntKind.i64.wrap (g.r+1))]) (xs:=[(be.mk c.d c.u (IntKind.i64.wrap (g.r+1)))]) 0 rfl (by decide) (aF (R:=ab) (x:=(be.mk c.d c.u (IntKind.i64.wrap (g.r+1)))) rfl) rfl rfl).zf (R:=ab) 0 rfl 0 rfl;obtain⟨gi,B⟩:=aU B;refine wl rfl (bJ (R:=ab) (xs:=P) (ys:=[(be.mk c.d c.u (IntKind.i64.wrap (g.r+1)))]) I Dy (by decide) (by decide) rfl rfl 0 rfl 3 rfl 0 rfl gi rfl fun i4 hv a w O I=>?_);exact fz
        exact fz
       rintro a w ⟨a3,c1,c5,b3,I,B⟩;unfold f7 at B;refine al I fun a I=>?_;rcases cd B with⟨gs,B⟩|⟨gs,B⟩
       ·refine al I fun a I=>?_;refine wl rfl (ba (ps:=[(0,.tmp 137)]) I Dy wE (zl:=[am 0,aT cg,aT cg,am 0]) (by kernel_rfl) rfl (us:=[(pu K)]) ⟨rfl,trivial⟩ (ws:=(pu K)) rfl rfl rfl rfl fun hm a w O I=>?_);replace I:=(I.lit (R:=ab) (us:=(pu K)) (xs:=[K]) 0 rfl (by decide) (aF (R:=ab) (x:=K) rfl) rfl rfl).zf (R:=ab) 0 rfl 0 rfl;obtain⟨gu,B⟩:=aU B;refine wl rfl (bJ (R:=ab) (xs:=a3) (ys:=[K]) I Dy (by decide) (by decide) rfl rfl 0 rfl 3 rfl 0 rfl gu rfl fun i5 hw a w O I=>?_);exact fz
       exact fz
      rintro a w ⟨b8,bt,c4,b2,I,B⟩;unfold f6 at B;exact fz
     refine al I fun a I=>?_;cases B
     have hr:=hf2 _ rfl;subst hr;have B:f5 g G c P Q=some W:=hMo2;exact fin
    rintro a w ⟨a2,bs,c3,b1,I,B⟩;unfold f5 at B;refine aM (J:=fun a w=>∃ (b6:LI) (c9:Value) (b4:LV),St L No T 172 [(1,p),(2,pt n 0),(4,pt o 0),(10,pt D 0),(11,.bool true),(17,c9),(70,p),(71,am (m.length:Int)),(72,am G)] [a7 c9 b4,.box n (bo b e f) 25,.box o [am 0,.slice none 0 0,.slice none 0 0] 25,a7 A E,aJ z q,.box D [am (IntKind.i64.wrap (g.r+1)),A,z] 25] [aQ bA p m,ao ab b4 b6,aQ ab e b.i,aQ aa f b.s,ao ab E F,ao aa q g.s,cc,qj L No [a7 e j,aJ f l] [aQ bA p m,ao ab j b.i,ao aa l b.s,cc]] a w/\f0 G b6=some W) ?_ ?_
    ·refine al I fun a I=>?_;rcases cd B with⟨h0,B⟩|⟨h0,B⟩
     ·refine al I fun a I=>?_;refine qy I (bk (ps:=[(0,.tmp 145),(1,.tmp 147),(2,.tmp 149)]) I Mc wE rfl (us:=[(bf c.d),[aT c.u],[am (IntKind.i64.wrap (g.r+1))]]) ⟨rfl,⟨rfl,⟨rfl,trivial⟩⟩⟩ (ws:=[am c.d.k,aT c.d.t,aT c.u,am (IntKind.i64.wrap (g.r+1))]) rfl) fun a I=>?_;refine wl rfl (ba (ps:=[(0,.tmp 150)]) I Dy wE (zl:=[am 0,aT cg,aT cg,am 0]) (by kernel_rfl) rfl (us:=[[am c.d.k,aT c.d.t,aT c.u,am (IntKind.i64.wrap (g.r+1))]]) ⟨rfl,trivial⟩ (ws:=[am c.d.k,aT c.d.t,aT c.u,am (IntKind.i64.wrap (g.r+1))]) rfl rfl rfl rfl fun hn a w O I=>?_);replace I:=(I.lit (R:=ab) (us:=[am c.d.k,aT c.d.t,aT c.u,am (IntKind.i64.wrap (g.r+1))]) (xs:=[(be.mk c.d c.u (IntKind.i64.wrap (g.r+1)))]) 0 rfl (by decide) (aF (R:=ab) (x:=(be.mk c.d c.u (IntKind.i64.wrap (g.r+1)))) rfl) rfl rfl).zf (R:=ab) 0 rfl 0 rfl;obtain⟨h1,B⟩:=aU B;refine wl rfl (bJ (R:=ab) (xs:=a2) (ys:=[(be.mk c.d c.u (IntKind.i64.wrap (g.r+1)))]) I Dy (by decide) (by decide) rfl rfl 0 rfl 3 rfl 0 rfl h1 rfl fun i9 hx a w O I=>?_);exact fz
     exact fz
    rintro a w ⟨b6,c9,b4,I,B⟩;unfold f0 at B;exact fz
   rintro a w ⟨av,bl,c2,b0,I,B⟩;unfold jQ at B;exact fz
  refine al I fun a I=>?_;cases B
  have hr:=hf1 _ rfl;subst hr;have B:lO b g N F=some y:=hMo1;exact fin
 rintro a w ⟨ak,bi,a9,Y,I,B⟩;unfold lO at B;refine ay ?_;refine al I fun a I=>?_;rcases cd B with⟨h2,B⟩|⟨h2,B⟩
 ·refine go I fun a w I=>?_;replace I:=I.thaw 5 rfl;cases B
  refine aE I Tryz.results29 (bu I rfl 3 rfl gF rfl (fun h=>by cases h) (ap I rfl aC)) ?_;exact⟨e,j,f,l,rfl,I.zo ⟨.inr (aK (i:=0) rfl),⟨.inr (aK (i:=1) rfl),trivial⟩⟩ 0 rfl 1 rfl,I.zo ⟨.inr (aK (i:=0) rfl),⟨.inr (aK (i:=1) rfl),trivial⟩⟩ 1 rfl 2 rfl,(I.zp 0 rfl 1 rfl (by decide))⟩
 refine al I fun a I=>?_;rcases cd B with⟨h3,B⟩|⟨h3,B⟩
 ·refine go I fun a w I=>?_;replace I:=I.thaw 5 rfl;cases B
  refine aE I Tryz.results29 (bu I rfl 3 rfl gF rfl (fun h=>by cases h) (ap I rfl aC)) ?_;exact⟨e,j,f,l,rfl,I.zo ⟨.inr (aK (i:=0) rfl),⟨.inr (aK (i:=1) rfl),trivial⟩⟩ 0 rfl 1 rfl,I.zo ⟨.inr (aK (i:=0) rfl),⟨.inr (aK (i:=1) rfl),trivial⟩⟩ 1 rfl 2 rfl,(I.zp 0 rfl 1 rfl (by decide))⟩
 refine al I fun a I=>?_;rcases cd B with⟨h4,B⟩|⟨h4,B⟩
 ·refine go I fun a w I=>?_;replace I:=I.thaw 5 rfl;cases B
  refine aE I Tryz.results29 (bu I rfl 3 rfl gF rfl (fun h=>by cases h) (ap I rfl aC)) ?_;exact⟨e,j,f,l,rfl,I.zo ⟨.inr (aK (i:=0) rfl),⟨.inr (aK (i:=1) rfl),trivial⟩⟩ 0 rfl 1 rfl,I.zo ⟨.inr (aK (i:=0) rfl),⟨.inr (aK (i:=1) rfl),trivial⟩⟩ 1 rfl 2 rfl,(I.zp 0 rfl 1 rfl (by decide))⟩
 refine go I fun a w I=>?_;cases B
 refine aE I Tryz.results29 (bu I rfl 1 rfl gF rfl (fun h=>by cases h) (ap I rfl aC)) ?_;exact⟨a9,Y,z,q,rfl,I.zo ⟨.inr (aK (i:=2) rfl),⟨.inr (aK (i:=3) rfl),trivial⟩⟩ 2 rfl 2 rfl,I.zo ⟨.inr (aK (i:=2) rfl),⟨.inr (aK (i:=3) rfl),trivial⟩⟩ 3 rfl 3 rfl,(I.zp 2 rfl 3 rfl (by decide))⟩
end
end
end Go.Proofs.YtcpplgcgcbihoaaGreatDoor
