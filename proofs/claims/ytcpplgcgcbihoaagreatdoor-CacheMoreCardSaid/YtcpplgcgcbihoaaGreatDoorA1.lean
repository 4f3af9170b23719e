/- Texts of the proof, joined (1). -/
import Derived.Test.YtcpplgcgcbihoaaGreatDoorA0
import Derived.Maps.RangeRun
import Derived.Test.YtcpplgcgcbihoaaGreatDoorProg
set_option linter.unusedVariables false
set_option linter.unusedSimpArgs false
set_option linter.unusedSectionVars false
namespace Go.Proofs.YtcpplgcgcbihoaaGreatDoor
open Go.RowKit
section
def N8 {κ ν:Type} (RK:a6 κ) (ak:Bool) (RV:a6 ν) (av:Bool) (T:Nat->Prop) (W w:World) (rs:List cT) (b:Nat) (es:Array MapEntry) (ck:Nat) (xs:List (κ×ν)):Prop :=
 w.heap[b]? = some (.map es ck)/\W.heap.size<=b/\bE RK ak RV av (dT T rs) w es xs
theorem yU {W:World} {b:Nat} {o:Obj} (h:W.heap.size<=b):∀ k,cT.dom (.obj b o) k->W.heap.size<=k:=fun k O=>by
 simp only [cT.dom,cw] at O; omega
section
variable {κ ν:Type} {P:Program} {W:World} {M T E:Nat->Prop} {n:Nat} {G:List (Nat×Value)} {D rs:List cT} {F:List cq} {a:Act} {w:World}
theorem St.retMap {RK:a6 κ} {ak:Bool} {RV:a6 ν} {av:Bool} {b ck:Nat} {es:Array MapEntry} {xs:List (κ×ν)} (h:St W No T n G D F a w) (hi:L5 D rs) (i:Nat) (hd:D[i]? = some (.obj b (.map es ck))) (j:Nat) (hj:F[j]? = some (gw RK ak RV av es xs)):N8 RK ak RV av T W w rs b es ck xs:=by
 have hm:=aO hd;exact⟨h.own _ hm,(h.free _ hm b rfl).2.resolve_left fun h=>h,(h.get j hj:bE RK ak RV av (dT T D) w es xs).keep (al _ _) fun k O=>.inl (hi.sub k O)⟩
end
end
section
variable {pos:String} {af:Array Edge} {g:Option (Nat×Bool)}
def HR {α:Type} (R:a6 α):a6 (bI ⊕ α) where
 size:=R.size
 rel:=fun T w cs y=>match y with
  | .inl c=>cs=c/\c.length=R.size/\∀ u∈c,u.oneCell'=true
  | .inr x=>R.rel T w cs x
 len:=fun {T w cs y} h=>by
  cases y with
  | inl c=>obtain⟨rfl,h,_⟩:=h; exact h
  | inr x=>exact R.len h
 one:=fun {T w cs y} h=>by
  cases y with
  | inl c=>obtain⟨rfl,_,h⟩:=h; exact h
  | inr x=>exact R.one h
 keep:=fun {T T' w w' cs y} h k n=>by
  cases y with
  | inl c=>exact h
  | inr x=>exact R.keep h k n
def ft {α:Type} (xs:List α) (i:Int) (cs:bI):List (bI ⊕ α):=(xs.map Sum.inr).set i.toNat (Sum.inl cs)
theorem yI {α:Type} {xs:List α} {i:Int} {cs:bI}:(ft xs i cs).length=xs.length:=by unfold ft; simp
section
variable {α:Type} {R:a6 α} {P:Program} {W:World} {M T E:Nat->Prop} {n:Nat} {G:List (Nat×Value)} {D rs:List cT} {F:List cq} {a:Act} {w:World} {K:Act->World->Prop} {xs:List α} {i:Int} {x:α} {cs cl:bI}
theorem wQ (h:bu xs i=some x) (cs:bI):bu (ft xs i cs) i=some (Sum.inl cs):=by
 obtain⟨q1,q2,q3⟩:=gM h;unfold bu ft;have:=(bS.1 q3).1;rw [if_pos q1,zB,if_pos rfl,if_pos (by simpa using this)]
theorem Ky (cs cs':bI):(ft xs i cs).set i.toNat (Sum.inl cs')=ft xs i cs':=by
 unfold ft; rw [List.set_set]
theorem Lg {T:Nat->Prop} (h:bk R T w cl xs):bk (HR R) T w cl (xs.map Sum.inr):=by
 refine⟨by rw [m5]; exact h.1,fun k y hy=>?_⟩;rw [wK] at hy;cases hx:xs[k]? with
 | none=>rw [hx] at hy; cases hy
 | some x =>
  rw [hx] at hy;obtain rfl:=bM hy;exact h.2 k x hx
theorem St.openH (I:St W M T n G D F a w) (j:Nat) (hj:F[j]? = some (ap R cl xs)):St W M T n G D (ap (HR R) cl (xs.map Sum.inr)::F) a w:=I.fact _ (Lg (I.get j hj))
theorem ee {v:Value} {b o p:Nat} (I:St W M T n G D F a w) (j:Nat) (hj:F[j]? = some (ap (HR R) cl (ft xs i cs))) (ho:L1 v b o R.size i p) (hg:bu xs i=some x):∀ k u,cs[k]? = some u->cl[p+k]? = some u:=by
 obtain⟨off,m,c,rfl,rfl,rfl⟩:=ho;obtain⟨q1,q2,q3⟩:=gM (wQ hg cs);obtain⟨c2,⟨rfl,_,_⟩,h2⟩:=(I.get j hj:bk (HR R) (dT T D) w cl (ft xs i cs)).2 _ _ q3;exact h2
theorem FJ {T:Nat->Prop} (I:bk (HR R) T w cl (ft xs i cs)) (hg:bu xs i=some x):(HR R).rel T w cs (Sum.inl cs):=by
 obtain⟨q1,q2,q3⟩:=gM (wQ hg cs);obtain⟨c2,⟨rfl,h1,h2⟩,_⟩:=I.2 _ _ q3;exact⟨rfl,h1,h2⟩
theorem St.closeH {x':α} (I:St W M T n G D F a w) (j:Nat) (hj:F[j]? = some (ap (HR R) cl (ft xs i cs))) (hr:R.rel (dT T D) w cs x'):St W M T n G D (ap R cl (xs.set i.toNat x')::F) a w:=by
 have h:bk (HR R) (dT T D) w cl (ft xs i cs):=I.get j hj;refine I.fact _ ⟨by rw [List.length_set,<- yI (xs:=xs) (i:=i) (cs:=cs)]; exact h.1,fun k y hy=>?_⟩;rw [zB] at hy;by_cases O:i.toNat=k
 ·subst O;rw [if_pos rfl] at hy;split at hy
  ·rename_i hl;obtain rfl:=bM hy;obtain⟨c2,⟨rfl,_,_⟩,h2⟩:=h.2 i.toNat (Sum.inl cs) (by unfold ft; rw [zB,if_pos rfl,if_pos (by simpa using hl)]);exact⟨_,hr,h2⟩
  ·cases hy
 ·rw [if_neg O] at hy;exact h.2 k (Sum.inr y) (by unfold ft; rw [zB,if_neg O,wK,hy]; rfl)
theorem KC {t ty e:TypeId} {X Y:Operand} {ag:Bool} {z b o k p:Nat} {v u:Value} {us:bI} (I:St W M T n G D F a w) (hX:ev G X=some (.pointer (some ⟨b,o+k,none⟩))) (hY:ev G Y=some u) (hu:u.cells.toList=us) (ht:qp P t=some (ag,z)) (q:Nat) (hq:D[q]? = some (.own v e R.size cl)) (j:Nat) (hj:F[j]? = some (ap (HR R) cl (ft xs i cs))) (ho:L1 v b o R.size i p) (hg:bu xs i=some x)
  (hz:us.length=z) (hl:Nat.ble (k+z) cs.length=true) (hone:∀ y∈nM cs k us,y.oneCell'=true)
  (K':∀ cl' w',Kt (fun j=>v.ownBlock=some j) w w'->St W M T n G (D.set q (.own v e R.size cl')) (ap (HR R) cl' (ft xs i (nM cs k us))::F) a w'->K a w'):su P ⟨none,.store t X Y,ty,pos,af,g⟩ a w K:=by
 have hr:(HR R).rel (dT T D) w cs (Sum.inl cs):=FJ (I.get j hj) hg;have hlen:(nM cs k us).length=R.size:=by
  have h1:=hr.2.1;have:=fm hl;unfold nM;simp only [cS,je,tI];omega
 exact sO (R:=HR R) (xs:=ft xs i cs) (x:=Sum.inl cs) (x':=Sum.inl (nM cs k us)) (k:=k) (cs:=cs) (us:=us) I hX hY hu ht q hq j hj ho (ee I j hj ho hg) (wQ hg cs) hr hz hl ⟨rfl,hlen,hone⟩ fun cl' w' O hS'=>K' cl' w' O (by rw [Ky] at hS'; exact hS')
end
end
section
section
variable {κ β:Type} {P:Program} {W:World} {M T E:Nat->Prop} {n:Nat} {G G':List (Nat×Value)} {D D':List cT} {F F':List cq} {a:Act} {w w':World} {K:Act->World->Prop}
variable {kt et:TypeId} {RK:a6 κ} {ak:Bool} {RI:a6 β} {e:TypeId} {q:κ->κ->Bool} {b ck:Nat} {es:Array MapEntry} {inn:List CN} {xs:List (κ×List β)}
end
end
section
section
variable {κ ν:Type} {RK:a6 κ} {ak:Bool} {RV:a6 ν} {av:Bool}
end
section
variable {κ ν:Type} {P:Program} {W:World} {M T E:Nat->Prop} {n:Nat} {G G':List (Nat×Value)} {D D':List cT} {F F':List cq} {a:Act} {w w':World} {K:Act->World->Prop}
variable {kt et:TypeId} {RK:a6 κ} {ak:Bool} {RV:a6 ν} {av:Bool} {q:κ->κ->Bool} {b clock:Nat} {es:Array MapEntry} {xs:List (κ×ν)}
end
end
section
section
variable {P:Program} {ops:Array Oper} {Q:Exit->Act->World->Prop}
end
end
section
theorem Lk {α:Type} {xs:List α} {i:Int} {x:α} (h:bu xs i=some x):xs.set i.toNat x=xs:=by
 obtain⟨_,_,h3⟩:=gM h;obtain⟨h4,h5⟩:=bS.1 h3;rw [<- h5]; exact List.set_getElem_self h4
end
section
variable {X Y Z:Operand} {ck:Nat} {t ty:TypeId}
variable {pos:String} {af:Array Edge} {g:Option (Nat×Bool)}
structure m6 (es:Array MapEntry) (ck:Nat):Prop where
  lt:∀ (i:Nat) (m:MapEntry),es[i]? = some m->m.born<ck
  inj:∀ (i j:Nat) (m m':MapEntry),es[i]? = some m->es[j]? = some m'->m.born=m'.born->i=j
theorem m6.nil:m6 #[] 0:=⟨fun i m h=>by simp at h,fun i j m m' h=>by simp at h⟩
theorem m6.push {es:Array MapEntry} (h:m6 es ck) (k v:Value):m6 (es.push { key:=k,val:=v,born:=ck }) (ck+1):=by
  have old:∀ (z:Nat) (m:MapEntry),(es.push { key:=k,val:=v,born:=ck })[z]? = some m->(z<es.size/\es[z]? = some m)∨(z=es.size/\m={ key:=k,val:=v,born:=ck }):=by
    intro z m hz;rw [Array.getElem?_push] at hz;split at hz
    · rename_i h; injection hz with hz; exact .inr ⟨h,hz.symm⟩
    · exact .inl ⟨(Ao.1 hz).1,hz⟩
  refine⟨fun z m hz=>?_,fun z z' m m' hz hz' hb=>?_⟩
  · rcases old z m hz with⟨_,h2⟩|⟨rfl,rfl⟩
    · have:=h.lt z m h2; omega
    · exact Nat.lt_succ_self _
  · rcases old z m hz with⟨_,h2⟩|⟨rfl,rfl⟩ <;> rcases old z' m' hz' with⟨_,h2'⟩|⟨rfl,rfl⟩
    · exact h.inj z z' m m' h2 h2' hb
    · have:=h.lt z m h2; simp only at hb; omega
    · have:=h.lt z' m' h2'; simp only at hb; omega
    · rfl
theorem xQ {es:Array MapEntry} {p:Nat} {f:MapEntry->MapEntry} {z:Nat} {m:MapEntry} (hz:(es.modify p f)[z]? = some m):∃ m0,es[z]? = some m0/\m=if p=z then f m0 else m0:=by
  rw [GP] at hz;split at hz
  · rename_i h;obtain⟨m0,h1,rfl⟩:=E5.1 hz;exact⟨m0,h1,by rw [if_pos h]⟩
  · rename_i h; exact⟨m,hz,by rw [if_neg h]⟩
theorem m6.modify {es:Array MapEntry} (h:m6 es ck) (p:Nat) (f:MapEntry->MapEntry) (hf:∀ e,(f e).born=e.born):m6 (es.modify p f) ck:=by
  have old:∀ (z:Nat) (m:MapEntry),(es.modify p f)[z]? = some m->∃ m0,es[z]? = some m0/\m.born=m0.born:=by
    intro z m hz;obtain⟨m0,h1,rfl⟩:=xQ hz;refine⟨m0,h1,?_⟩;split
    · exact hf m0
    · rfl
  refine⟨fun z m hz=>?_,fun z z' m m' hz hz' hb=>?_⟩
  · obtain⟨m0,h1,h2⟩:=old z m hz; rw [h2]; exact h.lt z m0 h1
  · obtain⟨m0,h1,h2⟩:=old z m hz;obtain⟨m1,h3,h4⟩:=old z' m' hz';exact h.inj z z' m0 m1 h1 h3 (by rw [<- h2,<- h4]; exact hb)
theorem m6.find {es:Array MapEntry} {p:Nat} {m0:MapEntry} (h:m6 es ck) (hm0:es[p]? = some m0):es.findIdx? (fun m=>(m.born:Int)==(m0.born:Int))=some p:=by
  rw [Array.findIdx?_eq_some_iff_getElem];obtain⟨h1,h2⟩:=Ao.1 hm0;refine⟨h1,by simp [h2],fun z hz=>?_⟩;have hzl:z<es.size:=by omega
  intro h3;have h3:(es[z].born:Int)=(m0.born:Int):=by simpa using h3
  have:=h.inj z p _ _ (xd hzl) hm0 (by omega);omega
def CK (es:Array MapEntry) (ck:Nat):cq:=⟨fun _ _=>m6 es ck,fun h _ _=>h⟩
def O6 {κ ν:Type} (RK:a6 κ) (ak:Bool) (RV:a6 ν) (av:Bool) (q:κ->κ->Bool) (es:Array MapEntry) (ck:Nat) (xs:List (κ×ν)) (key:κ) (s:Int):cq :=
  ⟨fun T w=>∃ (u:ν) (p:Nat) (m:MapEntry),bE RK ak RV av T w es (dS q key u xs)/\m6 es ck/\es[p]? = some m/\s=m.born/\∀ y,(dS q key u xs).set p (key,y)=dS q key y xs,
   fun h k n=>by obtain⟨u,p,m,h1,h2⟩:=h; exact⟨u,p,m,h1.keep k n,h2⟩⟩
section
variable {κ ν:Type} {P:Program} {W:World} {M T E:Nat->Prop} {n:Nat} {G G':List (Nat×Value)} {D D':List cT} {F F':List cq} {a:Act} {w w':World} {K:Act->World->Prop}
variable {kt et:TypeId} {RK:a6 κ} {ak:Bool} {RV:a6 ν} {av:Bool} {q:κ->κ->Bool} {b clock:Nat} {es:Array MapEntry} {xs:List (κ×ν)}
theorem Jj (ht:Hr P t=some (kt,et)) (hK:zG P kt RK ak q) {T:Nat->Prop} {w w0:World} (hr:w.heap[b]? = some (.map es clock)) (hm:bE RK ak RV av T w0 es xs) (hB:m6 es clock) {c cv:bI} {key:κ} {val:ν} (hc:RK.rel T w0 c key) (hv:RV.rel T w0 cv val) :
    ∃ es' ck',(Instr.mapUpdate t (.map (some b)) (bD ak c) (bD av cv)).run P w = .ok () { w with heap:=w.heap.setIfInBounds b (.map es' ck') }/\bE RK ak RV av T w0 es' (dS q key val xs)/\m6 es' ck':=by
  obtain⟨hl,hkeys⟩:=wU hm;have hf:=sI hK hc w hl hkeys;have hch:=hK.check false _ _ w _ _ hc;cases hp:vm q key xs with
  | none =>
    obtain⟨_,g2,_⟩:=sf hp;rw [hp] at hf;refine⟨es.push { key:=bD ak c,val:=bD av cv,born:=clock },clock+1,?_,⟨by rw [g2]; simp [hm.1],fun z e x he hx=>?_⟩,hB.push _ _⟩
    · simp [Instr.mapUpdate,run_underlying (nU ht),xO hr,hch,hf,A7,EW _ hr]
    · rw [g2] at hx;by_cases hz:z<xs.length
      · rw [m4 hz] at hx;rw [O0 (by rw [hm.1]; exact hz)] at he;exact hm.2 z e x (by rw [<- he]; exact (xd _)) hx
      · rw [pQ (by omega)] at hx;obtain rfl:z=xs.length:=by
          rcases dZ xs.length z with h | h
          · rw [uQ (by simp; omega)] at hx; cases hx
          · omega
        simp at hx;subst hx;rw [<- hm.1,M6] at he;simp only [cw] at he;subst he;exact⟨⟨c,hc,rfl⟩,cv,hv,rfl⟩
  | some p =>
    obtain⟨x0,hx0,hq0,_,g2,_⟩:=sg hp;have hpi:p<es.size:=by rw [hm.1]; exact (bS.1 hx0).1
    have he0:es[p]? = some es[p]:=xd hpi;obtain⟨⟨d0,hd0,hk0⟩,_⟩:=hm.2 p _ x0 he0 hx0;have hbits:=hK.bits _ _ _ _ _ _ _ _ hc hd0 hq0;rw [hp] at hf;refine⟨es.modify p fun e=>{ e with key:=bD ak c,val:=bD av cv },clock,?_,⟨by rw [g2]; simp [hm.1],fun z e x he hx=>?_⟩,hB.modify p _ fun _=>rfl⟩
    · have hat:A7 es.toList 0 (some p)=some (p,es[p].val):=by simp [A7,he0]
      rw [hat] at hf;have hkt:(Instr.keyThatStays (((es[p]?).map (·.key)).getD (bD ak c)) (bD ak c)).run P w = .ok (bD ak c) w:=by
        rw [he0];simp only [ni,yi,hk0,Instr.keyThatStays,hbits,if_true,Sem.run_pure]
      simp only [Instr.mapUpdate,Sem.run_bind,run_underlying (nU ht),Result.andThen_ok,xO hr,hch,hf,hkt,EW _ hr]
    · rw [g2] at hx;by_cases hz:p=z
      · subst hz;rw [CF (by rw [<- hm.1]; exact hpi)] at hx;simp only [cw] at hx;subst hx;rw [GP,if_pos rfl,he0] at he;simp only [ni,cw] at he;subst he;exact⟨⟨c,hc,rfl⟩,cv,hv,rfl⟩
      · rw [List.getElem?_set_ne hz] at hx;rw [GP,if_neg hz] at he;exact hm.2 z e x he hx
theorem FO {d:Nat} (RK:a6 κ) (ak:Bool) (RV:a6 ν) (av:Bool) (I:St W M T n G D F a w) (hn:Nat.blt d n=true)
    (k:∀ b,w.heap.size<=b->∀ a w',Kt No w w'->St W M T n ((d,.map (some b))::G) (.obj b (.map #[] 0)::D) (CK #[] 0::gw RK ak RV av #[] []::F) a w'->K a w'):su P ⟨some d,.makeMap t none,ty,pos,af,g⟩ a w K :=
  qu RK ak RV av I hn fun b hb a w' O I=>k b hb a w' O (I.fact _ m6.nil)
theorem Ij (I:St W M T n G D F a w) (ht:Hr P t=some (kt,et)) (hK:zG P kt RK ak q) (i:Nat) (hi:D[i]? = some (.obj b (.map es clock))) (j:Nat) (hj:F[j]? = some (gw RK ak RV av es xs)) (jb:Nat) (hb:F[jb]? = some (CK es clock))
    {c cv:bI} {key:κ} {val:ν} (hc:RK.rel (dT T D) w c key) (hv:RV.rel (dT T D) w cv val) (hX:ev G X=some (.map (some b))) (hY:ev G Y=some (bD ak c)) (hZ:ev G Z=some (bD av cv))
    (k:∀ es' ck' w',Kt (fun j=>j=b) w w'->St W M T n G (D.set i (.obj b (.map es' ck'))) (CK es' ck'::gw RK ak RV av es' (dS q key val xs)::F) a w'->K a w'):su P ⟨none,.mapUpdate t X Y Z,ty,pos,af,g⟩ a w K:=by
  have hr:w.heap[b]? = some (.map es clock):=I.own _ (aO hi);obtain⟨es',ck',hrun,hok,hB⟩:=Jj ht hK hr (I.mapOk j hj) (I.get jb hb) hc hv;refine FT (w':={ w with heap:=w.heap.setIfInBounds b (.map es' ck') }) (by simp [execOp,I.ev hX,I.ev hY,I.ev hZ,hrun]) (k es' ck' _ ((rH hr).mono fun j hj=>(bM hj).symm) ?_);exact ((I.fact (gw RK ak RV av es' _) hok).fact (CK es' ck') hB).turn hi (rH hr) (r':=.obj b (.map es' ck')) (tj hr).1 fun j hj=>.inl hj
theorem BL (I:St W M T n G D F a w) (ht:Hr P t=some (kt,et)) (hK:zG P kt RK ak q) (i:Nat) (hi:D[i]? = some (.obj b (.map es clock))) (j:Nat) (hj:F[j]? = some (gw RK ak RV av es xs)) (jb:Nat) (hb:F[jb]? = some (CK es clock))
    {c cv:bI} {key:κ} {val:ν} (hc:RK.rel (dT T D) w c key) (hv:RV.rel (dT T D) w cv val) (hX:ev G X=some (.map (some b))) (hY:ev G Y=some (bD ak c)) (hZ:ev G Z=some (bD av cv))
    (k:∀ es' ck' w',Kt (fun j=>j=b) w w'->St W M T n G (D.set i (.obj b (.map es' ck'))) (CK es' ck'::gw RK ak RV av es' (dS q key val xs)::F) a w'->K a w'):su P ⟨none,.insert t X Y Z,ty,pos,af,g⟩ a w K :=
  Ij (ty:=ty) (pos:=pos) (af:=af) (g:=g) I ht hK i hi j hj jb hb hc hv hX hY hZ k
theorem Je {d:Nat} (I:St W M T n G D F a w) (hd:Nat.blt d n=true) (ht:Hr P t=some (kt,et)) (hK:zG P kt RK ak q) (i:Nat) (hi:D[i]? = some (.obj b (.map es clock))) (j:Nat) (hj:F[j]? = some (gw RK ak RV av es xs)) (jb:Nat) (hb:F[jb]? = some (CK es clock))
    {c:bI} {key:κ} (hc:RK.rel (dT T D) w c key) {z:Value} {zc:bI} {z0:ν} (hz:L3 P et=some z) (hzc:z=bD av zc) (hz0:RV.rel (dT T D) w zc z0) (hX:ev G X=some (.map (some b))) (hY:ev G Y=some (bD ak c))
    (k:∀ v es' ck' (s:Int) a w',Kt (fun j=>j=b) w w'->St W M T n ((d,.tuple #[v,.int .i64 s])::G) (D.set i (.obj b (.map es' ck'))) (O6 RK ak RV av q es' ck' xs key s::F) a w'->K a w'):su P ⟨some d,.mapEntry t X Y,ty,pos,af,g⟩ a w K:=by
  have hr:w.heap[b]? = some (.map es clock):=I.own _ (aO hi);have hm:=I.mapOk j hj;have hB:m6 es clock:=I.get jb hb;obtain⟨hl,hkeys⟩:=wU hm;have hf:=sI hK hc w hl hkeys;have hch:=hK.check false _ _ w _ _ hc;have hzr:=E6 (P:=P) hz w;cases hp:vm q key xs with
  | none =>
    obtain⟨_,g2,_⟩:=sf hp;rw [hp] at hf;have hrun:(execOp a.eval ⟨some d,.mapEntry t X Y,ty,pos,af,g⟩).run P w = .ok (.value (.tuple #[z,.int .i64 clock])) { w with heap:=w.heap.setIfInBounds b (.map (es.push { key:=bD ak c,val:=z,born:=clock }) (clock+1)) }:=by
      simp [execOp,I.ev hX,I.ev hY,Instr.mapEntry,run_underlying (nU ht),xO hr,hch,hf,A7,EW _ hr,hzr,goInt]
    refine zS hrun (k z (es.push { key:=bD ak c,val:=z,born:=clock }) (clock+1) clock _ _ ((rH hr).mono fun j hj=>(bM hj).symm) ?_);refine St.put ?_ hd _;refine (I.fact (O6 RK ak RV av q _ (clock+1) xs key clock) ?_).turn hi (rH hr) (r':=.obj b (.map (es.push { key:=bD ak c,val:=z,born:=clock }) (clock+1))) (tj hr).1 fun j hj=>.inl hj;refine⟨z0,xs.length,{ key:=bD ak c,val:=z,born:=clock },⟨by rw [g2]; simp [hm.1],fun y e x he hx=>?_⟩,hB.push _ _,by rw [<- hm.1,M6],rfl,fun y=>by rw [g2,g2,List.set_append_right _ _ (bX _)]; simp⟩;rw [g2] at hx;by_cases hz:y<xs.length
    · rw [m4 hz] at hx;rw [O0 (by rw [hm.1]; exact hz)] at he;exact hm.2 y e x (by rw [<- he]; exact (xd _)) hx
    · rw [pQ (by omega)] at hx;obtain rfl:y=xs.length:=by
        rcases dZ xs.length y with h | h
        · rw [uQ (by simp; omega)] at hx; cases hx
        · omega
      simp at hx;subst hx;rw [<- hm.1,M6] at he;simp only [cw] at he;subst he;exact⟨⟨c,hc,rfl⟩,zc,hz0,hzc⟩
  | some p =>
    obtain⟨x0,hx0,hq0,_,g2,_⟩:=sg hp;have hpi:p<es.size:=by rw [hm.1]; exact (bS.1 hx0).1
    have hpx:p<xs.length:=(bS.1 hx0).1;have he0:es[p]? = some es[p]:=xd hpi;obtain⟨⟨d0,hd0,hk0⟩,cv0,hcv0,hv0⟩:=hm.2 p _ x0 he0 hx0;have hbits:=hK.bits _ _ _ _ _ _ _ _ hc hd0 hq0;rw [hp] at hf;have hat:A7 es.toList 0 (some p)=some (p,es[p].val):=by simp [A7,he0]
    rw [hat] at hf;have hkt:(Instr.keyThatStays es[p].key (bD ak c)).run P w = .ok (bD ak c) w:=by
      simp only [hk0,Instr.keyThatStays,hbits,if_true,Sem.run_pure]
    have hrun:(execOp a.eval ⟨some d,.mapEntry t X Y,ty,pos,af,g⟩).run P w = .ok (.value (.tuple #[es[p].val,.int .i64 es[p].born])) { w with heap:=w.heap.setIfInBounds b (.map (es.modify p fun m=>{ m with key:=bD ak c }) clock) }:=by
      have h5:(Instr.mapEntry t (.map (some b)) (bD ak c)).run P w = .ok (.tuple #[es[p].val,.int .i64 es[p].born]) { w with heap:=w.heap.setIfInBounds b (.map (es.modify p fun m=>{ m with key:=bD ak c }) clock) }:=by
        simp only [Instr.mapEntry,Sem.run_bind,run_underlying (nU ht),Result.andThen_ok,xO hr,hch,hf,hkt,EW _ hr,Sem.run_pure,goInt,he0,ni,yi]
      simp only [execOp,I.ev hX,I.ev hY,Sem.run_bind,h5,Result.andThen_ok,Sem.run_pure]
    refine zS hrun (k es[p].val (es.modify p fun m=>{ m with key:=bD ak c }) clock es[p].born _ _ ((rH hr).mono fun j hj=>(bM hj).symm) ?_);refine St.put ?_ hd _;refine (I.fact (O6 RK ak RV av q _ clock xs key es[p].born) ?_).turn hi (rH hr) (r':=.obj b (.map (es.modify p fun m=>{ m with key:=bD ak c }) clock)) (tj hr).1 fun j hj=>.inl hj;refine⟨x0.2,p,{ es[p] with key:=bD ak c },⟨by rw [g2]; simp [hm.1],fun y e x he hx=>?_⟩,hB.modify p _ fun _=>rfl,by rw [GP,if_pos rfl,he0]; rfl,rfl,fun y=>by rw [g2,g2,List.set_set]⟩;obtain⟨m0,h1,h2⟩:=xQ he;rw [g2,zB] at hx;by_cases hz:p=y
    · subst hz;rw [if_pos rfl,if_pos hpx] at hx;simp only [cw] at hx;subst hx;rw [if_pos rfl] at h2;rw [he0] at h1;obtain rfl:=bM h1;subst h2;exact⟨⟨c,hc,rfl⟩,cv0,hcv0,hv0⟩
    · rw [if_neg hz] at hx h2;subst h2;exact hm.2 y _ x h1 hx
theorem Jf {key:κ} {s:Int} {cv:bI} {val:ν} (I:St W M T n G D F a w) (i:Nat) (hi:D[i]? = some (.obj b (.map es clock))) (j:Nat) (hj:F[j]? = some (O6 RK ak RV av q es clock xs key s)) (hv:RV.rel (dT T D) w cv val) (hX:ev G X=some (.map (some b))) (hY:ev G Y=some (.int .i64 s)) (hZ:ev G Z=some (bD av cv))
    (k:∀ es' w',Kt (fun j=>j=b) w w'->St W M T n G (D.set i (.obj b (.map es' clock))) (CK es' clock::gw RK ak RV av es' (dS q key val xs)::F) a w'->K a w'):su P ⟨none,.entryStore t X Y Z,ty,pos,af,g⟩ a w K:=by
  have hr:w.heap[b]? = some (.map es clock):=I.own _ (aO hi);obtain⟨u,p,m0,hm,hB,hm0,rfl,hset'⟩:(O6 RK ak RV av q es clock xs key s).p (dT T D) w:=I.get j hj;have hfi:=hB.find hm0;have hrun:(execOp a.eval ⟨none,.entryStore t X Y Z,ty,pos,af,g⟩).run P w = .ok .skip { w with heap:=w.heap.setIfInBounds b (.map (es.modify p fun m=>{ m with val:=bD av cv }) clock) }:=by
    have h5:(Instr.entryStore t (.map (some b)) (.int .i64 (m0.born:Int)) (bD av cv)).run P w = .ok () { w with heap:=w.heap.setIfInBounds b (.map (es.modify p fun m=>{ m with val:=bD av cv }) clock) }:=by
      simp only [Instr.entryStore,Sem.run_bind,xO hr,Result.andThen_ok,asInt,asIntOf,Sem.run_pure,hfi,EW _ hr]
    simp only [execOp,I.ev hX,I.ev hY,I.ev hZ,Sem.run_bind,h5,Result.andThen_ok,Sem.run_pure]
  refine FT hrun (k (es.modify p fun m=>{ m with val:=bD av cv }) _ ((rH hr).mono fun j hj=>(bM hj).symm) ?_);refine ((I.fact (gw RK ak RV av (es.modify p fun m=>{ m with val:=bD av cv }) (dS q key val xs)) ?_).fact (CK (es.modify p fun m=>{ m with val:=bD av cv }) clock) (hB.modify p _ fun _=>rfl)).turn hi (rH hr) (r':=.obj b (.map (es.modify p fun m=>{ m with val:=bD av cv }) clock)) (tj hr).1 fun j hj=>.inl hj;rw [<- hset' val];refine⟨by simp [hm.1],fun y e x he hx=>?_⟩;obtain⟨m1,h1,h2⟩:=xQ he;rw [zB] at hx;by_cases hz:p=y
  · subst hz;have hpx:p<(dS q key u xs).length:=by rw [<- hm.1]; exact (Ao.1 h1).1
    rw [if_pos rfl,if_pos hpx] at hx;simp only [cw] at hx;subst hx;rw [if_pos rfl] at h2;subst h2;obtain⟨⟨d,hd,O⟩,_⟩:=hm.2 p m1 _ h1 (bA hpx);have hkk:(dS q key u xs)[p].1=key:=by
      have h6:=hset' u;have h7:=congrArg (fun l=>l[p]?) h6;simp only [zB,if_true,hpx,bA hpx,cw] at h7;rw [<- h7]
    exact⟨⟨d,by rw [hkk] at hd; exact hd,O⟩,cv,hv,rfl⟩
  · rw [if_neg hz] at hx h2;subst h2;exact hm.2 y _ x h1 hx
end
end
section
section
variable {P:Program} {a:Act} {w:World} {Q:Exit->Act->World->Prop}
theorem Ix {x:Code} (J:Act->World->Prop) (h1:x.wp P (Exit.then J Q) a w) (h2:∀ a w,J a w->Q .normal a w):x.wp P Q a w :=
 wp_mono h1 fun e a w h=>by cases e <;> first | exact h2 a w h | exact h
theorem Oo {fn:Func} {R:Ending->World->Prop} (h:bodyPost P fn R .ret a w):bodyPost P fn R .normal a w:=h
end
section
variable {κ ν:Type} {P:Program} {W:World} {M T E:Nat->Prop} {n:Nat} {G G':List (Nat×Value)} {D D':List cT} {F F':List cq} {a:Act} {w w':World} {K:Act->World->Prop}
variable {kt et:TypeId} {RK:a6 κ} {ak:Bool} {RV:a6 ν} {av:Bool} {q:κ->κ->Bool} {b r ck:Nat} {es:Array MapEntry} {seen:Array Nat} {xs:List (κ×ν)}
end
end
section
section
variable {P:Program} {W:World} {M T:Nat->Prop} {n d j t:Nat} {G:List (Nat×Value)} {D:List cT} {F:List cq} {a:Act} {w:World} {ops:Array Oper} {Q:Exit->Act->World->Prop} {rest:List Oper} {o:Oper} {v:Value} {x y:Operand} {ty tt t':TypeId} {pos:String} {af:Array Edge} {want c:Bool} {id:Nat} {l:List Oper} {z:Code}
theorem qy (I:St W M T n G D F a w) (h:Ye P o a No w v) (k:∀ a,St W M T n ((d,v)::G) D F a w->wpList P ops Q rest a w) (hg:o.guard=none:=by rfl) (hd:o.dst=some d:=by rfl) (hn:Nat.blt d n=true:=by rfl):wpList P ops Q (o::rest) a w:=wy I h hg hd hn k
theorem qg (I:St W M T n G D F a w) (hc:c=want) (h:Ye P o a No w v) (k:∀ a,St W M T n ((d,v)::G) D F a w->wpList P ops Q rest a w) (hg:o.guard=some (j,want):=by rfl) (hj:(ops[j]?).bind (·.dst)=some t:=by rfl) (ht:lk G t=some (.bool c):=by rfl) (hd:o.dst=some d:=by rfl) (hn:Nat.blt d n=true:=by rfl):wpList P ops Q (o::rest) a w:=wg I hg hj ht hc (ky I h hd hn k)
theorem qm (I:St W M T n G D F a w) (k:∀ a,St W M T n ((d,v)::G) D F a w->wpList P ops Q rest a w) (hx:ev G x=some v:=by rfl) (hn:Nat.blt d n=true:=by rfl):wpList P ops Q (⟨some d,.move x,ty,pos,af,none⟩::rest) a w:=wy I (LQ I hx) rfl rfl hn k
theorem qa (I:St W M T n G D F a w) (k:∀ a,St W M T n ((d,v)::G) D F a w->wpList P ops Q rest a w) (hx:ev G x=some v:=by rfl) (hn:Nat.blt d n=true:=by rfl):wpList P ops Q (⟨some d,.assign x,ty,pos,af,none⟩::rest) a w:=wy I (GA I hx) rfl rfl hn k
theorem rq (h:∀ K:Act->World->Prop,(∀ a w,z.wp P Q a w->K a w)->wpList P l.toArray (Exit.then K Q) l a w):(Code.seq (Code.region id l.toArray false) z).wp P Q a w:=wp_seq_k fun K hK=>Hz (h K hK)
theorem rz (h:Q .normal a w):wpList P ops Q [] a w:=wpList_nil h
end
end
section
variable {X:Operand} {ag:Bool} {e e' t ty:TypeId} {v:Value}
variable {pos:String} {af:Array Edge} {g:Option (Nat×Bool)}
section
variable {α:Type} {R:a6 α} {P:Program} {W:World} {M T E:Nat->Prop} {n:Nat} {G:List (Nat×Value)} {D rs:List cT} {F:List cq} {a:Act} {w:World} {K:Act->World->Prop} {xs ys:List α} {i:Int} {x:α} {cs cl:bI}
theorem LM {d:Option Nat} (I:St W M T n G D F a w) (ht:lA P t=some e) (hx:ev G X=some v) (j:Nat) (hj:D[j]? = some (.own v e' R.size cl)) (p:Nat) (hp:F[p]? = some (ap (HR R) cl (ft xs i cs))):Ye P ⟨d,.call { callee:=.builtin .len,args:=#[X],argTypes:=#[t] },ty,pos,af,g⟩ a E w (.int .i64 xs.length):=by
  have h:=LP (R:=HR R) (xs:=ft xs i cs) (d:=d) (ty:=ty) (pos:=pos) (af:=af) (g:=g) (E:=E) I ht hx j hj p hp;rw [yI] at h;exact h
theorem Mp {lo hi:Int} (I:St W M T n G D F a w) (ht:lA P t=some e) (he:qp P e=some (ag,R.size)) (q:Nat) (hq:D[q]? = some (.own v e' R.size cl)) (j:Nat) (hj:F[j]? = some (ap (HR R) cl (ft xs i cs))) (hg:pU xs lo hi=some ys) :
    ∃ v',(∀ (T:Nat->Prop) (w:World),aF R T w v xs->aF R T w v' ys)/\(∀ {E:Nat->Prop} {d:Option Nat} {ty:TypeId} {X:Operand} {olo ohi:Option Operand} {pos:String} {af:Array Edge} {g:Option (Nat×Bool)} {k1 k2:IntKind},ev G X=some v->((∃ x,olo=some x/\ev G x=some (.int k1 lo))∨(olo=none/\lo=0))->((∃ x,ohi=some x/\ev G x=some (.int k2 hi))∨(ohi=none/\hi=xs.length))->Ye P ⟨d,.slice t X olo ohi none,ty,pos,af,g⟩ a E w v'):=by
  obtain⟨q1,q2,q3,rfl⟩:=sr hg;obtain⟨A,c,hv,h1,h2,hS'⟩:=MT (R:=HR R) (xs:=ft xs i cs) (lo:=lo.toNat) (hi:=hi.toNat) I q hq j hj (by omega) (by rw [yI]; omega);rw [yI] at hv h1;refine⟨_,fun T w h=>?_,fun hX hlo hhi=>M1 I ht he q1 q2 q3 h1 hv hX hlo hhi⟩;subst hv;refine h.cut (by omega) (by omega) _ (fun hlt b o U=>?_);rw [if_neg (by omega),U];simp [lB,HR]
theorem KB {d:Nat} {Y:Operand} {k:IntKind} (I:St W M T n G D F a w) (ht:lA P t=some e) (he:qp P e=some (ag,R.size)) (hX:ev G X=some v) (hY:ev G Y=some (.int k i)) (q:Nat) (hq:D[q]? = some (.own v e' R.size cl)) (j:Nat) (hj:F[j]? = some (ap (HR R) cl (ft xs i cs))) (hg:bu xs i=some x) (hn:Nat.blt d n=true)
    (K':∀ b o p,L1 v b o R.size i p->(∀ k u,cs[k]? = some u->cl[p+k]? = some u)->∀ a,St W M T n ((d,.pointer (some ⟨b,o,none⟩))::G) D F a w->K a w):su P ⟨some d,.indexAddr t X Y,ty,pos,af,g⟩ a w K :=
  dx (R:=HR R) I ht he hX hY q hq j hj (wQ hg cs) hn fun b o p c hr ho hc=>by
    obtain⟨rfl,_,_⟩:=hr;exact K' b o p ho hc
theorem qc {Y:Operand} {z b o k p:Nat} {u:Value} {us:bI} (I:St W M T n G D F a w) (hX:ev G X=some (.pointer (some ⟨b,o+k,none⟩))) (hY:ev G Y=some u) (hu:u.cells.toList=us) (ht:qp P t=some (ag,z)) (q:Nat) (hq:D[q]? = some (.own v e R.size cl)) (j:Nat) (hj:F[j]? = some (ap (HR R) cl (ft xs i cs))) (ho:L1 v b o R.size i p) (hg:bu xs i=some x)
    (hz:us.length=z) (hl:Nat.ble (k+z) cs.length=true) (hone:∀ y∈us,y.oneCell'=true)
    (K':∀ cl' w',Kt (fun j=>v.ownBlock=some j) w w'->St W M T n G (D.set q (.own v e R.size cl')) (ap (HR R) cl' (ft xs i (nM cs k us))::F) a w'->K a w'):su P ⟨none,.store t X Y,ty,pos,af,g⟩ a w K :=
  KC I hX hY hu ht q hq j hj ho hg hz hl (fun y hy=>by
    have hr:(HR R).rel (dT T D) w cs (Sum.inl cs):=FJ (I.get j hj) hg;unfold nM at hy;simp only [cD] at hy;rcases hy with (hy | hy) | hy
    · exact hr.2.2 y (List.mem_of_mem_take hy)
    · exact hone y hy
    · exact hr.2.2 y (GT hy)) K'
theorem St.zc (I:St W M T n G D F a w) (j:Nat) (hj:F[j]? = some (ap (HR R) cl (ft xs i cs))) (hg:bu xs i=some x) (hr:R.rel (dT T D) w cs x):St W M T n G D (ap R cl xs::F) a w:=by
  have h:=I.closeH j hj hr;rw [Lk hg] at h;exact h
def BO {α:Type} (p:List α) (cs:bI):List (bI ⊕ α):=p.map Sum.inr++[Sum.inl cs]
theorem Dy {p:List α} (h:i.toNat=p.length):ft (p++[x]) i cs=BO p cs:=by
  unfold ft BO;rw [h,vT,List.set_append_right _ _ (by simp)];simp
theorem KY (I:St W M T n G D F a w) (q:Nat) (hq:D[q]? = some (.own v e R.size cl)) (j:Nat) (hj:F[j]? = some (ap R cl xs)):xs.length<=maxLen:=by
  obtain⟨h1,h2⟩:=I.own _ (aO hq);have h3:bk R (dT T D) w cl xs:=I.get j hj;obtain⟨A,m,c,rfl,h4,h5,h6,_⟩:=h1.form h2;have:m=xs.length:=wJ h2 (h4.symm.trans h3.1);omega
theorem KL {p:List α} {x e:α} (hb:p.length<=maxLen) (h:bu (p++[x]) (IntKind.i64.wrap (((p++[x]).length:Int)-1))=some e):x=e/\(IntKind.i64.wrap (((p++[x]).length:Int)-1)).toNat=p.length:=by
  obtain⟨h1,h2,h3⟩:=gM h;have hl:(p++[x]).length=p.length+1:=by simp
  unfold maxLen at hb;have hw:IntKind.i64.wrap (((p++[x]).length:Int)-1)=p.length:=by rw [IntKind.wrap_i64,hl]; omega
  rw [hw] at h3 ⊢;refine⟨?_,by simp⟩;simpa using h3
theorem St.closeLast {p:List α} (I:St W M T n G D F a w) (j:Nat) (hj:F[j]? = some (ap (HR R) cl (BO p cs))) (hr:R.rel (dT T D) w cs x):St W M T n G D (ap R cl (p++[x])::F) a w:=by
  have h:=I.closeH (R:=R) (xs:=p++[x]) (i:=(p.length:Int)) (cs:=cs) j (by rw [Dy (by simp)]; exact hj) hr;rw [show (p++[x]).set ((p.length:Int)).toNat x=p++[x] by simp] at h;exact h
end
section
variable {α:Type} {R:a6 α} {P:Program} {W:World} {M T E:Nat->Prop} {n:Nat} {G:List (Nat×Value)} {D rs:List cT} {F:List cq} {a:Act} {w:World} {K:Act->World->Prop} {xs ys zs:List α} {v0 v1 v2:Value}
end
section
variable {W:World} {M T:Nat->Prop} {n:Nat} {G G2:List (Nat×Value)} {D rs:List cT} {F F2 F0:List cq} {a:Act} {w:World}
def qN (W:World) (M:Nat->Prop) (rs:List cT) (F0:List cq):cq :=
  ⟨fun T w=>(∀ r∈rs,r.ok w)/\(∀ r∈rs,∀ k,r.dom k->¬ T k/\(M k∨W.heap.size<=k))/\(rs.Pairwise fun (r s:cT)=>∀ (k:Nat),r.dom k->¬ s.dom k)/\∀ f∈F0,f.p (dT T rs) w,
   fun h k n=>⟨fun r hr=>cT.keep (h.1 r hr) fun j hj=>k.block j (cT.lt (h.1 r hr) j hj) (h.2.1 r hr j hj).1,
     fun r hr j hj=>⟨fun hT=>by
       rcases n j hT with h1 | h1
       · exact (h.2.1 r hr j hj).1 h1
       · have:=cT.lt (h.1 r hr) j hj; omega,(h.2.1 r hr j hj).2⟩,h.2.2.1,
     fun f hf=>f.keep (h.2.2.2 f hf) (k.mono fun j hj=>.inl hj) fun j hj=>by
       rcases hj with hj | hj
       · rcases n j hj with h1 | h1
         · exact .inl (.inl h1)
         · exact .inr h1
       · exact .inl (.inr hj)⟩⟩
theorem St.snap (I:St W M T n G D F2 a w) (hY:St W M T n G2 (rs++D) F a w):St W M T n G D (qN W M rs F::F2) a w :=
  I.fact _ ⟨fun r hr=>hY.own r (iB _ hr),fun r hr k O=>⟨by
      rintro (hT | ⟨s,hs,hT⟩)
      · exact (hY.free r (iB _ hr) k O).1 hT
      · exact (td.1 hY.apart).2.2 r hr s hs k O hT,(hY.free r (iB _ hr) k O).2⟩,(td.1 hY.apart).1,
    fun f hf=>f.keep (hY.facts f hf) (al _ _) fun k O=>.inl (by
      rcases O with (O | ⟨s,hs,O⟩) | ⟨r,hr,O⟩
      · exact .inl O
      · exact .inr ⟨s,pR _ hs,O⟩
      · exact .inr ⟨r,iB _ hr,O⟩)⟩
theorem St.thaw (I:St W M T n G D F a w) (i:Nat) (hi:F[i]? = some (qN W M rs F0)):St W M T n G (rs++D) F0 a w:=by
  obtain⟨h1,h2,h3,h4⟩:=(show (qN W M rs F0).p _ _ from I.get i hi);refine⟨I.size,I.defers,I.slots,I.base,fun r hr=>?_,fun r hr k O=>?_,td.2 ⟨h3,I.apart,fun r hr s hs k O hk2=>(h2 r hr k O).1 (.inr ⟨s,hs,hk2⟩)⟩,fun f hf=>f.keep (h4 f hf) (al _ _) fun k O=>.inl ?_,I.tlt⟩
  · rcases cD.1 hr with hr | hr
    · exact h1 r hr
    · exact I.own r hr
  · rcases cD.1 hr with hr | hr
    · exact⟨fun hT=>(h2 r hr k O).1 (.inl hT),(h2 r hr k O).2⟩
    · exact I.free r hr k O
  · rcases O with O | ⟨s,hs,O⟩
    · exact .inl (.inl O)
    · rcases cD.1 hs with hs | hs
      · exact .inr ⟨s,hs,O⟩
      · exact .inl (.inr ⟨s,hs,O⟩)
end
end
section
structure ae where
  v:Int
  x:ByteArray
def ad:a6 ae where
  size:=2
  rel:=fun _ _ cs x=>cs=[.int .i64 x.v,.string x.x]
  len:=by rintro _ _ _ _ rfl; rfl
  one:=by rintro _ _ _ _ rfl; exact (oc rfl (oc rfl on))
  keep:=fun h _ _=>h
structure au where
  d:ae
  u:ByteArray
  k:(List ae)
  a:Int
  t:Int
  j:Int
  w:Bool
def aa:a6 au where
  size:=8
  rel:=fun T w cs x=>∃ v1,cs=[.int .i64 x.d.v,.string x.d.x,.string x.u,v1,.int .i64 x.a,.int .i64 x.t,.int .i64 x.j,.bool x.w]/\aF ad T w v1 x.k
  len:=by rintro _ _ _ _ ⟨v1,rfl,hv1⟩; rfl
  one:=by rintro _ _ _ _ ⟨v1,rfl,hv1⟩; exact (oc rfl (oc rfl (oc rfl (oc hv1.one (oc rfl (oc rfl (oc rfl (oc rfl on))))))))
  keep:=by rintro _ _ _ _ _ _ ⟨v1,rfl,hv1⟩ k n; exact⟨v1,rfl,hv1.keep k n⟩
structure a7 where
  d:ae
  u:ByteArray
  a:Int
def ac:a6 a7 where
  size:=4
  rel:=fun _ _ cs x=>cs=[.int .i64 x.d.v,.string x.d.x,.string x.u,.int .i64 x.a]
  len:=by rintro _ _ _ _ rfl; rfl
  one:=by rintro _ _ _ _ rfl; exact (oc rfl (oc rfl (oc rfl (oc rfl on))))
  keep:=fun h _ _=>h
structure ah where
  r:Int
  i:(List a7)
  s:(List au)
theorem PF:aS aR 122=true:=by kernel_rfl
theorem PG:aS aR 123=true:=by kernel_rfl
theorem J5:aS aR 124=true:=by kernel_rfl
theorem PH:aS aR 125=true:=by kernel_rfl
theorem PI:aS aR 126=true:=by kernel_rfl
theorem Fq:aS aR 147=true:=by kernel_rfl
theorem Fr:aS aR 152=true:=by kernel_rfl
theorem PT:aS aR 155=true:=by kernel_rfl
theorem Nr:aS aR 156=true:=by kernel_rfl
theorem Dq:aS aR 157=true:=by kernel_rfl
theorem Ns:aS aR 160=true:=by kernel_rfl
theorem Nt:aS aR 163=true:=by kernel_rfl
theorem J7:aS aR 167=true:=by kernel_rfl
theorem P8:aS aR 176=true:=by kernel_rfl
theorem H7:aS aR 177=true:=by kernel_rfl
theorem P9:aS aR 178=true:=by kernel_rfl
theorem Qa:aS aR 179=true:=by kernel_rfl
theorem Qb:aS aR 180=true:=by kernel_rfl
theorem Qi:aS aR 195=true:=by kernel_rfl
theorem NA:aS aR 196=true:=by kernel_rfl
theorem NB:aS aR 197=true:=by kernel_rfl
theorem Qj:aS aR 198=true:=by kernel_rfl
theorem Qq:aS aR 218=true:=by kernel_rfl
theorem Qr:aS aR 219=true:=by kernel_rfl
theorem Qs:aS aR 220=true:=by kernel_rfl
theorem NI:aS aR 221=true:=by kernel_rfl
theorem Qz:aS aR 249=true:=by kernel_rfl
theorem QA:aS aR 250=true:=by kernel_rfl
theorem Ev:CY aR 22=some (91,4,48):=by kernel_rfl
theorem tN:CY aR 23=some (33,8,96):=by kernel_rfl
theorem Ms:CY aR 26=some (3,1,8):=by kernel_rfl
theorem iA:CY aR 31=some (30,2,24):=by kernel_rfl
theorem QS:Tryz.prog.underlying 241=some (.interface (Tryz.prog.methodsAt 241)):=by kernel_rfl
theorem mixed:Tryz.prog.follows .mixedOrders=true:=by kernel_rfl
theorem Dh:lA aR 22=some 91:=by kernel_rfl
theorem mV:lA aR 23=some 33:=by kernel_rfl
theorem Jx:lA aR 26=some 3:=by kernel_rfl
theorem j7:lA aR 31=some 30:=by kernel_rfl
theorem f9:qp aR 25=some (true,3):=by kernel_rfl
theorem EY:qp aR 3=some (false,1):=by kernel_rfl
theorem dB:qp aR 30=some (true,2):=by kernel_rfl
theorem HN:qp aR 31=some (false,1):=by kernel_rfl
theorem j6:qp aR 33=some (true,8):=by kernel_rfl
theorem OP:qp aR 4=some (false,1):=by kernel_rfl
theorem MV:qp aR 9=some (false,1):=by kernel_rfl
theorem Di:qp aR 91=some (true,4):=by kernel_rfl
theorem mw:ip aR 25=some [.int .i64 0,.slice none 0 0,.slice none 0 0]:=by kernel_rfl
theorem Ry:ip aR 3=some [.int .i64 0]:=by kernel_rfl
theorem eJ:ip aR 33=some [.int .i64 0,.string cp,.string cp,.slice none 0 0,.int .i64 0,.int .i64 0,.int .i64 0,.bool false]:=by kernel_rfl
theorem Ap:ip aR 91=some [.int .i64 0,.string cp,.string cp,.int .i64 0]:=by kernel_rfl
end
section
structure bj where
  L:(List Int)
  r1:Int
structure bU where
  d:ae
  u:ByteArray
def br:a6 bU where
  size:=3
  rel:=fun _ _ cs x=>cs=[.int .i64 x.d.v,.string x.d.x,.string x.u]
  len:=by rintro _ _ _ _ rfl; rfl
  one:=by rintro _ _ _ _ rfl; exact (oc rfl (oc rfl (oc rfl on)))
  keep:=fun h _ _=>h
structure dd where
  b1:Bool
  u1:Bool
  N:Int
  t1:Int
def dG:a6 dd where
  size:=4
  rel:=fun _ _ cs x=>cs=[.bool x.b1,.bool x.u1,.int .i64 x.N,.int .i64 x.t1]
  len:=by rintro _ _ _ _ rfl; rfl
  one:=by rintro _ _ _ _ rfl; exact (oc rfl (oc rfl (oc rfl (oc rfl on))))
  keep:=fun h _ _=>h
structure aN where
  f:Bool
  c:(List dd)
  n:Int
  C:Int
def an:a6 aN where
  size:=4
  rel:=fun T w cs x=>∃ v1,cs=[.bool x.f,v1,.int .i64 x.n,.int .i64 x.C]/\aF dG T w v1 x.c
  len:=by rintro _ _ _ _ ⟨v1,rfl,hv1⟩; rfl
  one:=by rintro _ _ _ _ ⟨v1,rfl,hv1⟩; exact (oc rfl (oc hv1.one (oc rfl (oc rfl on))))
  keep:=by rintro _ _ _ _ _ _ ⟨v1,rfl,hv1⟩ k n; exact⟨v1,rfl,hv1.keep k n⟩
theorem Pr:aS aR 100=true:=by kernel_rfl
theorem Nl:aS aR 121=true:=by kernel_rfl
theorem PR:aS aR 153=true:=by kernel_rfl
theorem QD:aS aR 26=true:=by kernel_rfl
theorem QF:aS aR 35=true:=by kernel_rfl
theorem QH:aS aR 41=true:=by kernel_rfl
theorem oh:aS aR 73=true:=by kernel_rfl
theorem Ml:aS aR 91=true:=by kernel_rfl
theorem If:CY aR 148=some (147,4,24):=by kernel_rfl
theorem Ko:CY aR 34=some (150,4,48):=by kernel_rfl
theorem zK:CY aR 42=some (9,1,16):=by kernel_rfl
theorem Om:CY aR 64=some (153,3,40):=by kernel_rfl
theorem K0:DL aR 147=some [(0,1),(1,1),(2,1),(3,1)]:=by kernel_rfl
theorem Ga:DL aR 150=some [(0,1),(1,1),(2,1),(3,1)]:=by kernel_rfl
theorem NX:DL aR 153=some [(0,2),(2,1)]:=by kernel_rfl
theorem BU:DL aR 30=some [(0,1),(1,1)]:=by kernel_rfl
theorem R1:DL aR 84=some [(0,1),(1,1)]:=by kernel_rfl
theorem Is:lA aR 148=some 147:=by kernel_rfl
theorem uF:lA aR 34=some 150:=by kernel_rfl
theorem Lq:lA aR 42=some 9:=by kernel_rfl
theorem Iy:qp aR 147=some (true,4):=by kernel_rfl
theorem nN:qp aR 150=some (true,4):=by kernel_rfl
theorem DX:qp aR 153=some (true,3):=by kernel_rfl
theorem xG:ip aR 147=some [.bool false,.bool false,.int .i64 0,.int .i64 0]:=by kernel_rfl
theorem ti:ip aR 150=some [.bool false,.slice none 0 0,.int .i64 0,.int .i64 0]:=by kernel_rfl
theorem zC:ip aR 153=some [.int .i64 0,.string cp,.string cp]:=by kernel_rfl
theorem fH:ip aR 30=some [.int .i64 0,.string cp]:=by kernel_rfl
theorem R8:ip aR 84=some [.slice none 0 0,.int .i64 0]:=by kernel_rfl
theorem O2:ip aR 9=some [.string cp]:=by kernel_rfl
theorem CZ {W:World} {M T E:Nat->Prop} {n:Nat} {G:List (Nat×Value)} {D:List cT} {F:List cq} {a:Act} {w:World} {d:Option Nat} {t2:TypeId} {x y:Operand} {ty:TypeId} {pos:String} {af:Array Edge} {g:Option (Nat×Bool)} {p0 q0:Int} {p1 q1:ByteArray} (I:St W M T n G D F a w) (hx:ev G x=some (.agg #[.int .i64 p0,.string p1])) (hy:ev G y=some (.agg #[.int .i64 q0,.string q1])):Ye aR ⟨d,.binOp .eql 30 x y t2,ty,pos,af,g⟩ a E w (.bool (p0==q0&&p1.toList==q1.toList)) :=
  Ye.of fun w=>by
    have h1:=I.ev hx
    have h2:=I.ev hy
    clear I hx hy
    simp only [execOp,h1,h2,eqGuard]
    simp [go_sem]
    (repeat' split) <;> simp_all
theorem BD {W:World} {M T E:Nat->Prop} {n:Nat} {G:List (Nat×Value)} {D:List cT} {F:List cq} {a:Act} {w:World} {d:Option Nat} {t2:TypeId} {x y:Operand} {ty:TypeId} {pos:String} {af:Array Edge} {g:Option (Nat×Bool)} {p0 q0:Int} {p1 q1:ByteArray} (I:St W M T n G D F a w) (hx:ev G x=some (.agg #[.int .i64 p0,.string p1])) (hy:ev G y=some (.agg #[.int .i64 q0,.string q1])):Ye aR ⟨d,.binOp .neq 30 x y t2,ty,pos,af,g⟩ a E w (.bool (!(p0==q0&&p1.toList==q1.toList))) :=
  Ye.of fun w=>by
    have h1:=I.ev hx
    have h2:=I.ev hy
    clear I hx hy
    simp only [execOp,h1,h2,eqGuard]
    simp [go_sem]
    (repeat' split) <;> simp_all
end
section
theorem PB:aS aR 111=true:=by kernel_rfl
theorem H4:aS aR 120=true:=by kernel_rfl
theorem uf:aS aR 143=true:=by kernel_rfl
theorem PQ:aS aR 149=true:=by kernel_rfl
theorem H6:aS aR 150=true:=by kernel_rfl
theorem Nq:aS aR 151=true:=by kernel_rfl
theorem P4:aS aR 169=true:=by kernel_rfl
theorem Qf:aS aR 187=true:=by kernel_rfl
theorem Nz:aS aR 192=true:=by kernel_rfl
theorem Ke:aS aR 32=true:=by kernel_rfl
theorem Bq:aS aR 95=true:=by kernel_rfl
theorem He:aS aR 96=true:=by kernel_rfl
theorem yx:aS aR 97=true:=by kernel_rfl
theorem Mm:aS aR 98=true:=by kernel_rfl
theorem Hf:aS aR 99=true:=by kernel_rfl
theorem ML:DL aR 91=some [(0,2),(2,1),(3,1)]:=by kernel_rfl
theorem Jz:lA aR 64=some 153:=by kernel_rfl
end
section
structure bp where
  d:ae
  m:Bool
  r1:Int
  k:(List ae)
  q:(List ByteArray)
def aB:a6 bp where
  size:=6
  rel:=fun T w cs x=>∃ v1 v2,cs=[.int .i64 x.d.v,.string x.d.x,.bool x.m,.int .i64 x.r1,v1,v2]/\aF ad T w v1 x.k/\aF a6.str T w v2 x.q
  len:=by rintro _ _ _ _ ⟨v1,v2,rfl,hv1,hv2⟩; rfl
  one:=by rintro _ _ _ _ ⟨v1,v2,rfl,hv1,hv2⟩; exact (oc rfl (oc rfl (oc rfl (oc rfl (oc hv1.one (oc hv2.one on))))))
  keep:=by rintro _ _ _ _ _ _ ⟨v1,v2,rfl,hv1,hv2⟩ k n; exact⟨v1,v2,rfl,hv1.keep k n,hv2.keep k n⟩
structure dX where
  l:(List aN)
  b:ah
  s1:(List ae)
  o:(List bp)
  y:(List ae)
structure de where
  i1:ae
  p:ae
def ga:a6 de where
  size:=4
  rel:=fun _ _ cs x=>cs=[.int .i64 x.i1.v,.string x.i1.x,.int .i64 x.p.v,.string x.p.x]
  len:=by rintro _ _ _ _ rfl; rfl
  one:=by rintro _ _ _ _ rfl; exact (oc rfl (oc rfl (oc rfl (oc rfl on))))
  keep:=fun h _ _=>h
theorem PD:aS aR 116=true:=by kernel_rfl
theorem J3:aS aR 117=true:=by kernel_rfl
theorem Nk:aS aR 119=true:=by kernel_rfl
theorem J6:aS aR 140=true:=by kernel_rfl
theorem Nu:aS aR 170=true:=by kernel_rfl
theorem J8:aS aR 171=true:=by kernel_rfl
theorem Qc:aS aR 182=true:=by kernel_rfl
theorem Nx:aS aR 183=true:=by kernel_rfl
theorem NC:aS aR 206=true:=by kernel_rfl
theorem NL:aS aR 246=true:=by kernel_rfl
theorem NM:aS aR 247=true:=by kernel_rfl
theorem Kg:aS aR 38=true:=by kernel_rfl
theorem rM:aS aR 40=true:=by kernel_rfl
theorem Hd:aS aR 92=true:=by kernel_rfl
theorem yG:CY aR 137=some (202,6,88):=by kernel_rfl
theorem NP:CY aR 253=some (257,4,48):=by kernel_rfl
theorem Ez:I9 aR 202 3=some 4:=by kernel_rfl
theorem EA:I9 aR 202 4=some 5:=by kernel_rfl
theorem ur:Hr aR 166=some (30,4):=by kernel_rfl
theorem KZ:DL aR 139=some [(0,1),(1,3),(4,1),(5,1),(6,1)]:=by kernel_rfl
theorem Q5:DL aR 257=some [(0,2),(2,2)]:=by kernel_rfl
theorem OH:DL aR 33=some [(0,2),(2,1),(3,1),(4,1),(5,1),(6,1),(7,1)]:=by kernel_rfl
theorem wE:lA aR 137=some 202:=by kernel_rfl
theorem N1:qp aR 137=some (false,1):=by kernel_rfl
theorem uL:qp aR 139=some (true,7):=by kernel_rfl
theorem wF:qp aR 202=some (true,6):=by kernel_rfl
theorem HO:qp aR 42=some (false,1):=by kernel_rfl
theorem wL:ip aR 139=some [.slice none 0 0,.int .i64 0,.slice none 0 0,.slice none 0 0,.slice none 0 0,.slice none 0 0,.slice none 0 0]:=by kernel_rfl
theorem uS:ip aR 202=some [.int .i64 0,.string cp,.bool false,.int .i64 0,.slice none 0 0,.slice none 0 0]:=by kernel_rfl
theorem IN:ip aR 257=some [.int .i64 0,.string cp,.int .i64 0,.string cp]:=by kernel_rfl
theorem O1:L3 aR 4=some (.bool false):=by kernel_rfl
def aK (a b:ae):Bool:=a.v==b.v&&a.x.toList==b.x.toList
theorem c6:zG aR 30 ad true aK where
  check:=by
    rintro b T w0 w c x rfl
    show (Instr.checkKey b (Nat.succ (Nat.succ 9998)) 30 _).run aR w=_
    generalize 9998=N
    simp [Instr.checkKey,bD,go_sem]
  eq:=by
    rintro T T2 w0 w1 w c d x y rfl rfl
    unfold aK Op.equal
    show (Op.equalIn (Nat.succ (Nat.succ 9998)) 30 _ _).run aR w=_
    generalize 9998=N
    simp [Op.equalIn,bD,beq_toListBytes,go_sem]
    (try (repeat' split) <;> simp_all)
  now:=⟨_,Tryz.underlying30,by rintro T T2 w0 w1 c d x y rfl rfl; first | (exact .inl rfl) | (right; unfold aK; simp [bD,Instr.sameNow,beq_toListBytes])⟩
  bits:=by
    rintro T T2 w0 w1 c d x y rfl rfl h
    unfold aK at h
    show Instr.sameBits (Nat.succ (Nat.succ 9998)) _ _=_
    generalize 9998=N
    simp [bD,Instr.sameBits,beq_toListBytes] at h ⊢
    simp [h]
end
section
variable {A B:Prop} {S:Type} {k:Nat} {p:Int} {r:cT} {v0 v1 v10 v3 v4 v5 v6 v7 v8 v9:Value} {w':World}
variable {pos:String} {af:Array Edge} {g:Option (Nat×Bool)}
class ua (P:Program) (t:TypeId) (b:outParam Bool) (z:outParam Nat):Prop where
 h:qp P t=some (b,z)
class oz (P:Program) (s:TypeId) (f:Nat) (k:outParam Nat):Prop where
 h:I9 P s f=some k
class HW (P:Program) (t:TypeId) (e:outParam TypeId):Prop where
 h:lA P t=some e
class Nb (P:Program) (t:TypeId) (u:outParam TypeDesc):Prop where
 h:P.underlying t=some u
theorem fD {D:List cq} {r:cq} (h:∃ i:Nat,D[i]? = some r:=by first | exact⟨0,rfl⟩ | exact⟨1,rfl⟩ | exact⟨2,rfl⟩ | exact⟨3,rfl⟩ | exact⟨4,rfl⟩ | exact⟨5,rfl⟩ | exact⟨6,rfl⟩ | exact⟨7,rfl⟩ | exact⟨8,rfl⟩ | exact⟨9,rfl⟩ | exact⟨10,rfl⟩ | exact⟨11,rfl⟩ | exact⟨12,rfl⟩ | exact⟨13,rfl⟩ | exact⟨14,rfl⟩ | exact⟨15,rfl⟩ | exact⟨16,rfl⟩ | exact⟨17,rfl⟩ | exact⟨18,rfl⟩ | exact⟨19,rfl⟩ | exact⟨20,rfl⟩ | exact⟨21,rfl⟩ | exact⟨22,rfl⟩ | exact⟨23,rfl⟩ | exact⟨24,rfl⟩ | exact⟨25,rfl⟩ | exact⟨26,rfl⟩ | exact⟨27,rfl⟩ | exact⟨28,rfl⟩ | exact⟨29,rfl⟩):∃ i:Nat,D[i]? = some r:=h
theorem fR {D:List cT} (h:∃ i:Nat,D[i]? = some r:=by first | exact⟨0,rfl⟩ | exact⟨1,rfl⟩ | exact⟨2,rfl⟩ | exact⟨3,rfl⟩ | exact⟨4,rfl⟩ | exact⟨5,rfl⟩ | exact⟨6,rfl⟩ | exact⟨7,rfl⟩ | exact⟨8,rfl⟩ | exact⟨9,rfl⟩ | exact⟨10,rfl⟩ | exact⟨11,rfl⟩ | exact⟨12,rfl⟩ | exact⟨13,rfl⟩ | exact⟨14,rfl⟩ | exact⟨15,rfl⟩ | exact⟨16,rfl⟩ | exact⟨17,rfl⟩ | exact⟨18,rfl⟩ | exact⟨19,rfl⟩ | exact⟨20,rfl⟩ | exact⟨21,rfl⟩ | exact⟨22,rfl⟩ | exact⟨23,rfl⟩ | exact⟨24,rfl⟩ | exact⟨25,rfl⟩ | exact⟨26,rfl⟩ | exact⟨27,rfl⟩ | exact⟨28,rfl⟩ | exact⟨29,rfl⟩):∃ i:Nat,D[i]? = some r:=h
theorem yl (i:Nat) {D:List cT} {r:Option cT} (h:D[i]? = r):D[i]? = r:=h
theorem fI {D:List cT} {i:Nat} (h:D[i]? = some r:=by first | (refine yl 0 ?_; exact rfl) | (refine yl 1 ?_; exact rfl) | (refine yl 2 ?_; exact rfl) | (refine yl 3 ?_; exact rfl) | (refine yl 4 ?_; exact rfl) | (refine yl 5 ?_; exact rfl) | (refine yl 6 ?_; exact rfl) | (refine yl 7 ?_; exact rfl) | (refine yl 8 ?_; exact rfl) | (refine yl 9 ?_; exact rfl) | (refine yl 10 ?_; exact rfl) | (refine yl 11 ?_; exact rfl) | (refine yl 12 ?_; exact rfl) | (refine yl 13 ?_; exact rfl) | (refine yl 14 ?_; exact rfl) | (refine yl 15 ?_; exact rfl) | (refine yl 16 ?_; exact rfl) | (refine yl 17 ?_; exact rfl) | (refine yl 18 ?_; exact rfl) | (refine yl 19 ?_; exact rfl) | (refine yl 20 ?_; exact rfl) | (refine yl 21 ?_; exact rfl) | (refine yl 22 ?_; exact rfl) | (refine yl 23 ?_; exact rfl) | (refine yl 24 ?_; exact rfl) | (refine yl 25 ?_; exact rfl) | (refine yl 26 ?_; exact rfl) | (refine yl 27 ?_; exact rfl) | (refine yl 28 ?_; exact rfl) | (refine yl 29 ?_; exact rfl)):D[i]? = some r:=h
theorem kn {c b:Bool} (h:c=b:=by first | assumption | exact rfl | exact nt (by assumption) | exact nf (by assumption)):c=b:=h
def Tk (Z o:Nat) (cs us:bI):Prop:=(cs.drop o).take Z=us/\us.length=Z
def Cl (Z:Nat) (v:Value) (us:bI):Prop:=v.cells.toList=us/\us.length=Z
theorem SD {o:Nat} {cs:bI} (h:(cs.drop o).take 1=[v0]):Tk 1 o cs [v0]:=⟨h,rfl⟩
theorem Sg {v:Value} (h:v.cells.toList=[v0]):Cl 1 v [v0]:=⟨h,rfl⟩
theorem SE {o:Nat} {cs:bI} (h:(cs.drop o).take 2=[v0,v1]):Tk 2 o cs [v0,v1]:=⟨h,rfl⟩
theorem xJ {v:Value} (h:v.cells.toList=[v0,v1]):Cl 2 v [v0,v1]:=⟨h,rfl⟩
theorem SF {o:Nat} {cs:bI} {v2:Value} (h:(cs.drop o).take 3=[v0,v1,v2]):Tk 3 o cs [v0,v1,v2]:=⟨h,rfl⟩
theorem rN {v v2:Value} (h:v.cells.toList=[v0,v1,v2]):Cl 3 v [v0,v1,v2]:=⟨h,rfl⟩
theorem SG {o:Nat} {cs:bI} {v2:Value} (h:(cs.drop o).take 4=[v0,v1,v2,v3]):Tk 4 o cs [v0,v1,v2,v3]:=⟨h,rfl⟩
theorem uZ {v v2:Value} (h:v.cells.toList=[v0,v1,v2,v3]):Cl 4 v [v0,v1,v2,v3]:=⟨h,rfl⟩
theorem SH {o:Nat} {cs:bI} {v2:Value} (h:(cs.drop o).take 5=[v0,v1,v2,v3,v4]):Tk 5 o cs [v0,v1,v2,v3,v4]:=⟨h,rfl⟩
theorem Ei {v v2:Value} (h:v.cells.toList=[v0,v1,v2,v3,v4]):Cl 5 v [v0,v1,v2,v3,v4]:=⟨h,rfl⟩
theorem SI {o:Nat} {cs:bI} {v2:Value} (h:(cs.drop o).take 6=[v0,v1,v2,v3,v4,v5]):Tk 6 o cs [v0,v1,v2,v3,v4,v5]:=⟨h,rfl⟩
theorem Ba {v v2:Value} (h:v.cells.toList=[v0,v1,v2,v3,v4,v5]):Cl 6 v [v0,v1,v2,v3,v4,v5]:=⟨h,rfl⟩
theorem SJ {o:Nat} {cs:bI} {v2:Value} (h:(cs.drop o).take 7=[v0,v1,v2,v3,v4,v5,v6]):Tk 7 o cs [v0,v1,v2,v3,v4,v5,v6]:=⟨h,rfl⟩
theorem Bb {v v2:Value} (h:v.cells.toList=[v0,v1,v2,v3,v4,v5,v6]):Cl 7 v [v0,v1,v2,v3,v4,v5,v6]:=⟨h,rfl⟩
theorem SK {o:Nat} {cs:bI} {v2:Value} (h:(cs.drop o).take 8=[v0,v1,v2,v3,v4,v5,v6,v7]):Tk 8 o cs [v0,v1,v2,v3,v4,v5,v6,v7]:=⟨h,rfl⟩
theorem zD {v v2:Value} (h:v.cells.toList=[v0,v1,v2,v3,v4,v5,v6,v7]):Cl 8 v [v0,v1,v2,v3,v4,v5,v6,v7]:=⟨h,rfl⟩
theorem SL {o:Nat} {cs:bI} {v2:Value} (h:(cs.drop o).take 9=[v0,v1,v2,v3,v4,v5,v6,v7,v8]):Tk 9 o cs [v0,v1,v2,v3,v4,v5,v6,v7,v8]:=⟨h,rfl⟩
theorem JM {v v2:Value} (h:v.cells.toList=[v0,v1,v2,v3,v4,v5,v6,v7,v8]):Cl 9 v [v0,v1,v2,v3,v4,v5,v6,v7,v8]:=⟨h,rfl⟩
theorem R4 {o:Nat} {cs:bI} {v2:Value} (h:(cs.drop o).take 10=[v0,v1,v2,v3,v4,v5,v6,v7,v8,v9]):Tk 10 o cs [v0,v1,v2,v3,v4,v5,v6,v7,v8,v9]:=⟨h,rfl⟩
theorem sB {v v2:Value} (h:v.cells.toList=[v0,v1,v2,v3,v4,v5,v6,v7,v8,v9]):Cl 10 v [v0,v1,v2,v3,v4,v5,v6,v7,v8,v9]:=⟨h,rfl⟩
theorem R5 {o:Nat} {cs:bI} {v2:Value} (h:(cs.drop o).take 11=[v0,v1,v2,v3,v4,v5,v6,v7,v8,v9,v10]):Tk 11 o cs [v0,v1,v2,v3,v4,v5,v6,v7,v8,v9,v10]:=⟨h,rfl⟩
theorem RR {v v2:Value} (h:v.cells.toList=[v0,v1,v2,v3,v4,v5,v6,v7,v8,v9,v10]):Cl 11 v [v0,v1,v2,v3,v4,v5,v6,v7,v8,v9,v10]:=⟨h,rfl⟩
theorem R6 {o:Nat} {cs:bI} {v2 v11:Value} (h:(cs.drop o).take 12=[v0,v1,v2,v3,v4,v5,v6,v7,v8,v9,v10,v11]):Tk 12 o cs [v0,v1,v2,v3,v4,v5,v6,v7,v8,v9,v10,v11]:=⟨h,rfl⟩
theorem uY {v v2 v11:Value} (h:v.cells.toList=[v0,v1,v2,v3,v4,v5,v6,v7,v8,v9,v10,v11]):Cl 12 v [v0,v1,v2,v3,v4,v5,v6,v7,v8,v9,v10,v11]:=⟨h,rfl⟩
theorem Sp {Z o:Nat} {cs us:bI} (h:Tk Z o cs us:=by first | ((with_reducible apply SD); exact rfl) | ((with_reducible apply SE); exact rfl) | ((with_reducible apply SF); exact rfl) | ((with_reducible apply SG); exact rfl) | ((with_reducible apply SH); exact rfl) | ((with_reducible apply SI); exact rfl) | ((with_reducible apply SJ); exact rfl) | ((with_reducible apply SK); exact rfl) | ((with_reducible apply SL); exact rfl) | ((with_reducible apply R4); exact rfl) | ((with_reducible apply R5); exact rfl) | ((with_reducible apply R6); exact rfl)):Tk Z o cs us:=h
theorem RZ {W:World} {M T:Nat->Prop} {n:Nat} {G:List (Nat×Value)} {D:List cT} {F:List cq} {v:Value} {a:Act} {w:World} {e:TypeId} {sz:Nat} {cl:bI} (I:St W M T n G D F a w) (h:∃ i:Nat,D[i]? = some (.own v e sz cl)):v.oneCell'=true:=iS (I.own _ (aO h.choose_spec)).1
theorem R0 {W:World} {M T:Nat->Prop} {n:Nat} {G:List (Nat×Value)} {D:List cT} {F:List cq} {v:Value} {a:Act} {w:World} {α:Type} {R:a6 α} {xs:List α} (I:St W M T n G D F a w) (h:∃ i:Nat,F[i]? = some (aL R v xs)):v.oneCell'=true:=aF.one (I.get h.choose h.choose_spec:aF R _ _ _ _)
theorem QZ {v:Value} (h:v.oneCell'=true:=by first | exact rfl | exact RZ I fR | exact R0 I fD):v.oneCell'=true:=h
theorem Oh {Z:Nat} {v:Value} {us:bI} (h:Cl Z v us:=by first | ((with_reducible apply Sg); exact rfl) | ((with_reducible apply xJ); exact rfl) | ((with_reducible apply rN); exact rfl) | ((with_reducible apply uZ); exact rfl) | ((with_reducible apply Ei); exact rfl) | ((with_reducible apply Ba); exact rfl) | ((with_reducible apply Bb); exact rfl) | ((with_reducible apply zD); exact rfl) | ((with_reducible apply JM); exact rfl) | ((with_reducible apply sB); exact rfl) | ((with_reducible apply RR); exact rfl) | ((with_reducible apply uY); exact rfl) | ((with_reducible apply Sg); exact m8 QZ)):Cl Z v us:=h
theorem QX {us:bI} (h:∀ u∈us,u.oneCell'=true:=by repeat (first | exact on | refine oc QZ ?_)):∀ u∈us,u.oneCell'=true:=h
def SQ (P:Program) (z:Code) (Q:Exit->Act->World->Prop):Exit->Act->World->Prop:=Exit.then (z.wp P Q) Q
section
variable {P:Program} {W:World} {M T:Nat->Prop} {n:Nat} {F:List cq}
def Yv (P:Program) (W:World) (M T:Nat->Prop) (n:Nat) (G:List (Nat×Value)) (D:List cT) (F:List cq) (E:Nat->Prop) (op:Op) (v:Value):Prop :=
 ∀ a w d ty pos af g,St W M T n G D F a w->Ye P ⟨d,op,ty,pos,af,g⟩ a E w v
section
variable {G:List (Nat×Value)} {D:List cT} {E:Nat->Prop} {x y z:Operand} {v:Value} {t t' s:TypeId}
theorem Yv.mv (hx:ev G x=some v):Yv P W M T n G D F E (.move x) v:=fun _ _ _ _ _ _ _ I=>LQ I hx
theorem Yv.as (hx:ev G x=some v):Yv P W M T n G D F E (.assign x) v:=fun _ _ _ _ _ _ _ I=>GA I hx
theorem Yv.bi {op:BinOp} {k:IntKind} {q:Int} (hx:ev G x=some (.int k p)) (hy:ev G y=some (.int k q)) (hv:Ot op k p q=some v):Yv P W M T n G D F E (.binOp op t x y t') v:=fun _ _ _ _ _ _ _ I=>GC I hx hy hv
theorem Yv.bs {op:BinOp} {p q:ByteArray} (hx:ev G x=some (.string p)) (hy:ev G y=some (.string q)) (hv:OO op p q=some v):Yv P W M T n G D F E (.binOp op t x y t') v:=fun _ _ _ _ _ _ _ I=>Rp I hx hy hv
theorem Yv.no {b:Bool} (hx:ev G x=some (.bool b)):Yv P W M T n G D F E (.unOp .not t x) (.bool !b):=fun _ _ _ _ _ _ _ I=>Rl I hx
theorem Yv.ng {k:IntKind} (hx:ev G x=some (.int k p)):Yv P W M T n G D F E (.unOp .neg t x) (.int k (k.wrap (0-p))):=fun _ _ _ _ _ _ _ I=>Rj I hx
theorem Yv.ex {i:Nat} {vs:Array Value} (hx:ev G x=some (.tuple vs)) (hv:vs[i]? = some v):Yv P W M T n G D F E (.extract x i) v:=fun _ _ _ _ _ _ _ I=>R7 I hx hv
theorem Yv.nl {p:Addr} (hx:ev G x=some (.pointer (some p))):Yv P W M T n G D F E (.nilCheck x) (.pointer (some p)):=fun _ _ _ _ _ _ _ I=>Rk I hx
theorem Yv.fl {f b o:Nat} [c:oz P s f k] (hx:ev G x=some (.pointer (some ⟨b,o,none⟩))):Yv P W M T n G D F E (.fieldAddr s x f) (.pointer (some ⟨b,o+k,none⟩)):=fun _ _ _ _ _ _ _ I=>GB I hx c.h
theorem Yv.pt {b:Bool} (hz:ev G z=some (.bool b)) (hb:b=true) (hx:ev G x=some v):Yv P W M T n G D F E (.pick z x y) v:=fun _ _ _ _ _ _ _ I=>M0 I hz hb hx
theorem Yv.pf {b:Bool} (hz:ev G z=some (.bool b)) (hb:b=false) (hy:ev G y=some v):Yv P W M T n G D F E (.pick z x y) v:=fun _ _ _ _ _ _ _ I=>MZ I hz hb hy
theorem Yv.cv {k k' ks:IntKind} [hs:Nb P s (.int ks)] [ht:Nb P t (.int k')] (hx:ev G x=some (.int k p)):Yv P W M T n G D F E (.convert s t x) (.int k' (k'.wrap p)):=fun _ _ _ _ _ _ _ I=>OU I hx hs.h ht.h
theorem Yv.ls {p:ByteArray} [ht:Nb P t .string] (hx:ev G x=some (.string p)):Yv P W M T n G D F E (.call { callee:=.builtin .len,args:=#[x],argTypes:=#[t] }) (.int .i64 p.size):=fun _ _ _ _ _ _ _ I=>OV I ht.h hx
theorem Yv.ll {e:TypeId} {α:Type} {R:a6 α} {xs:List α} [ht:HW P t e] (hx:ev G x=some v) (hF:∃ i:Nat,F[i]? = some (aL R v xs)):Yv P W M T n G D F E (.call { callee:=.builtin .len,args:=#[x],argTypes:=#[t] }) (.int .i64 xs.length):=fun _ _ _ _ _ _ _ I=>N5 I ht.h hx hF.choose hF.choose_spec
theorem Yv.lo {e e':TypeId} {cl:bI} {α:Type} {R:a6 α} {xs:List α} [ht:HW P t e] (hx:ev G x=some v) (hD:∃ j:Nat,D[j]? = some (.own v e' R.size cl)) (hF:∃ i:Nat,F[i]? = some (ap R cl xs)):Yv P W M T n G D F E (.call { callee:=.builtin .len,args:=#[x],argTypes:=#[t] }) (.int .i64 xs.length):=fun _ _ _ _ _ _ _ I=>LP I ht.h hx hD.choose hD.choose_spec hF.choose hF.choose_spec
theorem Yv.la {Z b o:Nat} {cs us:bI} {bt:TypeId} [c:ua P t true Z] (hx:ev G x=some (.pointer (some ⟨b,o,none⟩))) (hD:∃ i:Nat,D[i]? = some (.box b cs bt)) (hE:¬ E b) (hu:Tk Z o cs us):Yv P W M T n G D F E (.load t x) (.agg us.toArray):=fun _ _ _ _ _ _ _ I=>dm I hx c.h hD.choose hD.choose_spec hE hu.1 hu.2 (fun h=>by cases h)
theorem Yv.l1 {b o:Nat} {cs:bI} {bt:TypeId} [c:ua P t false 1] (hx:ev G x=some (.pointer (some ⟨b,o,none⟩))) (hD:∃ i:Nat,D[i]? = some (.box b cs bt)) (hE:¬ E b) (hu:(cs.drop o).take 1=[v]):Yv P W M T n G D F E (.load t x) v:=fun _ _ _ _ _ _ _ I=>dm (us:=[v]) I hx c.h hD.choose hD.choose_spec hE hu rfl (fun _=>rfl)
theorem Yv.ca {Z b o p:Nat} {cs us:bI} [c:ua P t true Z] (hx:ev G x=some (.pointer (some ⟨b,p,none⟩))) (hF:∃ i:Nat,F[i]? = some (co b o cs)) (hp:o+k=p) (hE:∀ a w,St W M T n G D F a w->∀ j,E j->dT T D j∨w.heap.size<=j) (hu:Tk Z k cs us):Yv P W M T n G D F E (.load t x) (.agg us.toArray):=fun a w _ _ _ _ _ I=>by
 subst hp;exact w6 I c.h hF.choose hF.choose_spec hx (hE a w I) hu.1 hu.2 (fun h=>by cases h)
theorem Yv.c1 {b o p:Nat} {cs:bI} [c:ua P t false 1] (hx:ev G x=some (.pointer (some ⟨b,p,none⟩))) (hF:∃ i:Nat,F[i]? = some (co b o cs)) (hp:o+k=p) (hE:∀ a w,St W M T n G D F a w->∀ j,E j->dT T D j∨w.heap.size<=j) (hu:(cs.drop k).take 1=[v]):Yv P W M T n G D F E (.load t x) v:=fun a w _ _ _ _ _ I=>by
 subst hp;exact w6 (us:=[v]) I c.h hF.choose hF.choose_spec hx (hE a w I) hu rfl (fun _=>rfl)
theorem Si {ops:Array Oper} {mods:List (Nat×Tn)} {ls:Array Bool} {i:Nat} (h:rem ops mods ls i=[]:=by first | exact rfl | kernel_rfl):¬ Eo (rem ops mods ls i) k:=by rw [h]; exact bO
theorem Sj {ops:Array Oper} {mods:List (Nat×Tn)} {ls:Array Bool} {i:Nat} (h:rem ops mods ls i=[]:=by first | exact rfl | kernel_rfl):∀ a w,St W M T n G D F a w->∀ j,Eo (rem ops mods ls i) j->dT T D j∨w.heap.size<=j:=by rw [h]; exact fun _ _ _=>Ew
theorem Yv.e {d:Option Nat} {ty:TypeId} {op:Op} {a:Act} {w:World} (h:Yv P W M T n G D F E op v) (I:St W M T n G D F a w):Ye P ⟨d,op,ty,pos,af,g⟩ a E w v:=h a w d ty pos af g I
theorem yA {op:Op} (h:Yv P W M T n G D F E op v:=by
 first
  | ((with_reducible apply Yv.mv); exact rfl)
  | ((with_reducible apply Yv.bi); exact rfl; exact rfl; exact rfl)
  | ((with_reducible apply Yv.as); exact rfl)
  | ((with_reducible apply Yv.fl); exact rfl)
  | ((with_reducible apply Yv.l1); exact rfl; exact fR; (first | exact id | exact Si); exact rfl)
  | ((with_reducible apply Yv.la); exact rfl; exact fR; (first | exact id | exact Si); exact Sp)
  | ((with_reducible apply Yv.c1); exact rfl; exact fD; (first | exact ox _ | exact rfl | exact (tf _ _ _).symm); (first | exact (fun _ _ _ _ h=>h.elim) | exact Sj); exact rfl)
  | ((with_reducible apply Yv.ca); exact rfl; exact fD; (first | exact ox _ | exact rfl | exact (tf _ _ _).symm); (first | exact (fun _ _ _ _ h=>h.elim) | exact Sj); exact Sp)
  | ((with_reducible apply Yv.pt); exact rfl; exact kn; exact rfl)
  | ((with_reducible apply Yv.pf); exact rfl; exact kn; exact rfl)
  | ((with_reducible apply Yv.ex); exact rfl; exact rfl)
  | ((with_reducible apply Yv.no); exact rfl)
  | ((with_reducible apply Yv.nl); exact rfl)
  | ((with_reducible apply Yv.bs); exact rfl; exact rfl; exact rfl)
  | ((with_reducible apply Yv.ll); exact rfl; exact fD)
  | ((with_reducible apply Yv.lo); exact rfl; exact fR; exact fD)
  | ((with_reducible apply Yv.ls); exact rfl)
  | ((with_reducible apply Yv.cv); exact rfl)
  | ((with_reducible apply Yv.ng); exact rfl)):Yv P W M T n G D F E op v:=h
end
def Rn (W:World) (M T:Nat->Prop) (n:Nat) (F:List cq) (b:Bool) (G:List (Nat×Value)) (D:List cT) (X:Act->World->Prop) (G':List (Nat×Value)) (D':List cT) (X':Act->World->Prop):Prop :=
 ∀ w,(∀ a w',(b=true->w'=w)->St W M T n G' D' F a w'->X' a w')->∀ a,St W M T n G D F a w->X a w
section
variable {b:Bool} {G G':List (Nat×Value)} {D D':List cT} {X X' K:Act->World->Prop} {Q:Exit->Act->World->Prop} {ops:Array Oper} {l:List Oper} {op:Op} {v:Value} {d j t:Nat} {ty tt:TypeId} {pos:String} {af:Array Edge} {want c:Bool} {x y z:Code} {id:Nat} {u:Operand}
theorem Rn.fin:Rn W M T n F b G D X G D X:=fun w k a I=>k a w (fun _=>rfl) I
theorem Rn.yv (h:Yv P W M T n G D F No op v) (hn:Nat.blt d n=true) (k:Rn W M T n F b ((d,v)::G) D (wpList P ops Q l) G' D' X'):Rn W M T n F b G D (wpList P ops Q (⟨some d,op,ty,pos,af,none⟩::l)) G' D' X' :=
 fun w K a I=>wy I (h a w _ _ _ _ _ I) rfl rfl hn fun a I=>k w K a I
def O7 (u:Value) (want:Bool) (A B:Prop):Prop:=(∃ c,u = .bool c/\c=want/\A)∨(((∃ c,u = .bool c/\c = !want)∨u=undef)/\B)
theorem RU (h:c=want) (k:A):O7 (.bool c) want A B:=.inl ⟨c,rfl,h,k⟩
theorem RT (h:c = !want) (k:B):O7 (.bool c) want A B:=.inr ⟨.inl ⟨c,rfl,h⟩,k⟩
theorem RW (k:B):O7 undef want A B:=.inr ⟨.inr rfl,k⟩
theorem HQ {o:Oper} {g:Option (Nat×Bool)} {a:Act} {w:World} {rest:List Oper} (h:wpList P ops Q ({ o with guard:=none } :: rest) a w) (hw:Region.wanted { o with guard:=g } (yielded ops a.tmps)=true):wpList P ops Q ({ o with guard:=g } :: rest) a w:=by
 unfold wpList at h ⊢;rw [if_pos hw];rw [if_pos (by simp [Region.wanted])] at h;exact h
theorem Rn.gd {uv:Value} (hj:(ops[j]?).bind (·.dst)=some t) (ht:lk G t=some uv) (hn:Nat.blt d n=true)
  (k:O7 uv want (Rn W M T n F b G D (wpList P ops Q (⟨some d,op,ty,pos,af,none⟩::l)) G' D' X') (Rn W M T n F b ((d,undef)::G) D (wpList P ops Q l) G' D' X')):Rn W M T n F b G D (wpList P ops Q (⟨some d,op,ty,pos,af,some (j,want)⟩::l)) G' D' X':=by
 intro w K a I;rcases k with⟨c,h1,h2,k⟩|⟨h1 | h1,k⟩
 ·subst h1;exact HQ (o:=⟨some d,op,ty,pos,af,none⟩) (k w K a I) (by rw [ss I rfl hj ht,h2]; simp)
 ·obtain⟨c,h1,h2⟩:=h1;subst h1;exact wn I rfl hj ht h2 rfl hn fun a I=>k w K a I
 ·subst h1;exact SM I rfl hj ht rfl hn fun a I=>k w K a I
theorem Rn.st {ag:Bool} {Z bb o:Nat} {cs us:bI} {bt:TypeId} {xx yy:Operand} [ct:ua P tt ag Z] {i:Nat} (hx:ev G xx=some (.pointer (some ⟨bb,o,none⟩))) (hi:D[i]? = some (.box bb cs bt)) (hy:ev G yy=some v)
  (h1:∀ a w,St W M T n G D F a w->Cl Z v us) (h2:∀ a w,St W M T n G D F a w->∀ u∈us,u.oneCell'=true) (hl:Nat.ble (o+Z) cs.length=true) (k:Rn W M T n F false G (D.set i (.box bb (nM cs o us) bt)) (wpList P ops Q l) G' D' X'):Rn W M T n F false G D (wpList P ops Q (⟨none,.store tt xx yy,ty,pos,af,none⟩::l)) G' D' X' :=
 fun w K a I=>wl rfl (vd I hx hy (h1 a w I).1 ct.h i hi (h1 a w I).2 hl (h2 a w I) fun w O I=>k w (fun a w' _ I=>K a w' (fun h=>by cases h) I) _ I)
theorem aC {a:Act} {w:World} (h:x.wp P (SQ P z Q) a w):(Code.seq x z).wp P Q a w:=wp_seq h
theorem Rn.rq (hg:(l.all fun o=>o.guard.isNone)=true) (k:Rn W M T n F b G D (wpList P l.toArray (SQ P z Q) l) G' D' X'):Rn W M T n F b G D (Code.wp P (Code.seq (Code.region id l.toArray false) z) Q) G' D' X':=fun w K a I=>wp_seq (wp_region_lit (k w K a I))
theorem io {l:List Oper} {a:Act} {w:World} (h:wpList P l.toArray (SQ P z Q) l a w):(Code.seq (Code.region id l.toArray false) z).wp P Q a w:=wp_seq (wp_region_lit h)
theorem Rn.rl (k:Rn W M T n F b G D (wpList P l.toArray Q l) G' D' X'):Rn W M T n F b G D (Code.wp P (Code.region id l.toArray false) Q) G' D' X':=fun w K a I=>wp_region_lit (k w K a I)
theorem Rn.rz (k:Rn W M T n F b G D (Q .normal) G' D' X'):Rn W M T n F b G D (wpList P ops Q []) G' D' X':=fun w K a I=>wpList_nil (k w K a I)
theorem Rn.sq (k:Rn W M T n F b G D (z.wp P Q) G' D' X'):Rn W M T n F b G D (SQ P z Q .normal) G' D' X':=k
theorem Rn.th (k:Rn W M T n F b G D (K) G' D' X'):Rn W M T n F b G D (Exit.then K Q .normal) G' D' X':=k
theorem Rn.ib (k:Rn W M T n F b G D (Q .normal) G' D' X'):Rn W M T n F b G D (Exit.inBlock id Q .normal) G' D' X':=k
theorem Rn.sk (k:Rn W M T n F b G D (Q .normal) G' D' X'):Rn W M T n F b G D (Code.wp P .skip Q) G' D' X':=fun w K a I=>wp_skip (k w K a I)
theorem Rn.bl (k:Rn W M T n F b G D (x.wp P (Exit.inBlock id Q)) G' D' X'):Rn W M T n F b G D (Code.wp P (.block id x) Q) G' D' X':=fun w K a I=>wp_block (k w K a I)
theorem Rn.ct (hu:ev G u=some (.bool c)) (hc:c=true) (k:Rn W M T n F b G D (x.wp P Q) G' D' X'):Rn W M T n F b G D (Code.wp P (.cond u x y) Q) G' D' X':=fun w K a I=>Se I hu hc (k w K a I)
theorem Rn.cf (hu:ev G u=some (.bool c)) (hc:c=false) (k:Rn W M T n F b G D (y.wp P Q) G' D' X'):Rn W M T n F b G D (Code.wp P (.cond u x y) Q) G' D' X':=fun w K a I=>RC I hu hc (k w K a I)
theorem Rn.xt (k:Rn W M T n F b G D (Q (.exit j)) G' D' X'):Rn W M T n F b G D (Code.wp P (.exit j) Q) G' D' X':=fun w K a I=>wp_exit (k w K a I)
theorem Rn.rt (k:Rn W M T n F b G D (Q .ret) G' D' X'):Rn W M T n F b G D (Code.wp P .ret Q) G' D' X':=fun w K a I=>wp_ret (k w K a I)
theorem Rn.sqr (k:Rn W M T n F b G D (Q .ret) G' D' X'):Rn W M T n F b G D (SQ P z Q .ret) G' D' X':=k
theorem Rn.sqe (k:Rn W M T n F b G D (Q (.exit j)) G' D' X'):Rn W M T n F b G D (SQ P z Q (.exit j)) G' D' X':=k
theorem Rn.thr (k:Rn W M T n F b G D (Q .ret) G' D' X'):Rn W M T n F b G D (Exit.then K Q .ret) G' D' X':=k
theorem Rn.the (k:Rn W M T n F b G D (Q (.exit j)) G' D' X'):Rn W M T n F b G D (Exit.then K Q (.exit j)) G' D' X':=k
theorem Rn.ibr (k:Rn W M T n F b G D (Q .ret) G' D' X'):Rn W M T n F b G D (Exit.inBlock id Q .ret) G' D' X':=k
theorem Rn.ibt (h:Nat.beq j id=true) (k:Rn W M T n F b G D (Q .normal) G' D' X'):Rn W M T n F b G D (Exit.inBlock id Q (.exit j)) G' D' X':=fun w K a I=>by
 have h2:=k w K a I;simp only [Exit.inBlock];rw [if_pos (yc h)]; exact h2
theorem Rn.ibf (h:Nat.beq j id=false) (k:Rn W M T n F b G D (Q (.exit j)) G' D' X'):Rn W M T n F b G D (Exit.inBlock id Q (.exit j)) G' D' X':=fun w K a I=>by
 have h2:=k w K a I;simp only [Exit.inBlock];rw [if_neg (fun e=>by rw [e] at h; simp at h)]; exact h2
theorem Su (h:Rn W M T n F b G D X G' D' X':=by
 repeat (first
 | ((with_reducible apply Rn.yv); exact yA; exact rfl)
 | ((with_reducible apply Rn.gd); exact rfl; exact rfl; exact rfl; (first | apply RW | (apply RU; exact kn; (first | ((with_reducible apply Rn.yv); exact yA; exact rfl) | ((with_reducible apply Rn.st); exact rfl; exact fI; exact rfl; exact (fun a w I=>Oh); exact (fun a w I=>QX); exact rfl))) | (apply RT; exact kn)))
 | ((with_reducible apply Rn.st); exact rfl; exact fI; exact rfl; exact (fun a w I=>Oh); exact (fun a w I=>QX); exact rfl)
 | (with_reducible apply Rn.rz)
 | (with_reducible apply Rn.sq)
 | (with_reducible apply Rn.th)
 | (with_reducible apply Rn.ib)
 | (with_reducible apply Rn.sk)
 | ((with_reducible apply Rn.ct); exact rfl; exact kn)
 | ((with_reducible apply Rn.cf); exact rfl; exact kn))
 exact Rn.fin):Rn W M T n F b G D X G' D' X':=h
theorem Pf (h:Rn W M T n F b G D X G' D' X':=by
 repeat (first
 | ((with_reducible apply Rn.yv); exact yA; exact rfl)
 | ((with_reducible apply Rn.gd); exact rfl; exact rfl; exact rfl; (first | apply RW | (apply RU; exact kn; (first | ((with_reducible apply Rn.yv); exact yA; exact rfl) | ((with_reducible apply Rn.st); exact rfl; exact fI; exact rfl; exact (fun a w I=>Oh); exact (fun a w I=>QX); exact rfl))) | (apply RT; exact kn)))
 | ((with_reducible apply Rn.st); exact rfl; exact fI; exact rfl; exact (fun a w I=>Oh); exact (fun a w I=>QX); exact rfl)
 | (with_reducible apply Rn.rz)
 | ((with_reducible apply Rn.rq); exact rfl)
 | (with_reducible apply Rn.sq)
 | (with_reducible apply Rn.th)
 | (with_reducible apply Rn.ib)
 | (with_reducible apply Rn.sk)
 | (with_reducible apply Rn.bl)
 | ((with_reducible apply Rn.ct); exact rfl; exact kn)
 | ((with_reducible apply Rn.cf); exact rfl; exact kn)
 | (with_reducible apply Rn.rl)
 | (with_reducible apply Rn.rt)
 | (with_reducible apply Rn.xt)
 | (with_reducible apply Rn.sqr)
 | (with_reducible apply Rn.thr)
 | (with_reducible apply Rn.ibr)
 | (with_reducible apply Rn.sqe)
 | (with_reducible apply Rn.the)
 | ((with_reducible apply Rn.ibt); exact rfl)
 | ((with_reducible apply Rn.ibf); exact rfl))
 exact Rn.fin):Rn W M T n F b G D X G' D' X':=h
def Sk (ops:Array Oper) (listed:Array Bool) (i:Nat):Bool:=Region.free .any ops listed i&&(Region.ready .any ops listed).contains i
def Re (P:Program) (ops:Array Oper) (Q:Exit->Act->World->Prop) (mods:List (Nat×Tn)) (W:World) (M T:Nat->Prop) (n:Nat) (D:List cT) (F:List cq) (is:List Nat) (fuel:Nat) (ls:Array Bool) (G:List (Nat×Value)) (fuel':Nat) (ls':Array Bool) (G':List (Nat×Value)):Prop :=
 ∀ a w,Region.noSelect ops=true->Qp Q->St W M T n G D F a w->(∀ a,St W M T n G' D F a w->tE P ops Q mods fuel' ls' a w)->tE P ops Q mods fuel ls a w
section
variable {mods:List (Nat×Tn)} {fuel fuel' i:Nat} {ls ls':Array Bool} {is:List Nat}
theorem Re.en:Re P ops Q mods W M T n D F [] fuel ls G fuel ls G:=fun a w _ _ I k=>k a I
theorem Re.va {f:Nat} (hfu:fuel=f+1) (hi:ops[i]? = some ⟨some d,op,ty,pos,af,none⟩) (h:Yv P W M T n G D F (Eo (rem ops mods ls i)) op v) (hn:Nat.blt d n=true) (hr:Sk ops ls i=true) (k:Re P ops Q mods W M T n D F is f (ls.setIfInBounds i true) ((d,v)::G) fuel' ls' G'):Re P ops Q mods W M T n D F (i::is) fuel ls G fuel' ls' G' :=
 fun a w hs hQ I K=>hfu▸dy i hi hs (Bool.and_eq_true_iff.1 hr).1 (Bool.and_eq_true_iff.1 hr).2 rfl hQ I (h a w _ _ _ _ _ I) rfl rfl hn fun a I=>k a w hs hQ I K
theorem Re.gu {uv:Value} {f:Nat} (hfu:fuel=f+1) (hi:ops[i]? = some ⟨some d,op,ty,pos,af,some (j,want)⟩) (hj:(ops[j]?).bind (·.dst)=some t) (ht:lk G t=some uv) (hn:Nat.blt d n=true) (hr:Sk ops ls i=true)
  (k:O7 uv want (∃ v,Yv P W M T n G D F (Eo (rem ops mods ls i)) op v/\Re P ops Q mods W M T n D F is f (ls.setIfInBounds i true) ((d,v)::G) fuel' ls' G') (Re P ops Q mods W M T n D F is f (ls.setIfInBounds i true) ((d,undef)::G) fuel' ls' G')):Re P ops Q mods W M T n D F (i::is) fuel ls G fuel' ls' G':=by
 intro a w hs hQ I K;subst hfu;have h1:=Bool.and_eq_true_iff.1 hr;rcases k with⟨c,e1,e2,v,h,k⟩|⟨e1 | e1,k⟩
 ·subst e1;exact Sh i hi hs h1.1 h1.2 rfl hQ I (h a w _ _ _ _ _ I) rfl hj ht e2 rfl hn fun a I=>k a w hs hQ I K
 ·obtain⟨c,e1,e2⟩:=e1;subst e1;exact Sw i hi hs h1.1 h1.2 hQ I rfl hj ht e2 rfl hn fun a I=>k a w hs hQ I K
 ·subst e1;exact RS i hi hs h1.1 h1.2 hQ I rfl hj ht rfl hn fun a I=>k a w hs hQ I K
theorem gE (is:List Nat) {a:Act} {w:World} (I:St W M T n G D F a w) (k:∀ a,St W M T n G' D F a w->tE P ops Q mods fuel' ls' a w) (h:Re P ops Q mods W M T n D F is fuel ls G fuel' ls' G':=by
 repeat (first
 | ((with_reducible apply Re.va); exact rfl; exact rfl; exact yA; exact rfl; kernel_rfl)
 | ((with_reducible apply Re.gu); exact rfl; exact rfl; exact rfl; exact rfl; exact rfl; kernel_rfl; (first | apply RW | (apply RU; exact kn; refine⟨_,yA,?_⟩) | (apply RT; exact kn))))
 exact Re.en) (hs:Region.noSelect ops=true:=by kernel_rfl) (hQ:Qp Q:=by assumption):tE P ops Q mods fuel ls a w:=h a w hs hQ I k
end
def CO (F:List cq):List Nat->List cq->Prop
 | _,[]=>True
 | [],_::_=>False
 | j::js,f::F'=>F[j]? = some f/\CO F js F'
theorem CO.to {F:List cq}:∀ {js:List Nat} {F':List cq},CO F js F'->Fd F F'
 | _,[],_=>trivial
 | [],_::_,h=>h.elim
 | j::js,f::F',h=>⟨⟨j,h.1⟩,h.2.to⟩
theorem SC {F:List cq}:CO F [] []:=trivial
theorem SB {F F':List cq} {j:Nat} {js:List Nat} {f:cq} (h:F[j]? = some f) (k:CO F js F'):CO F (j::js) (f::F'):=⟨h,k⟩
theorem So {F F':List cq} {js:List Nat} (h:CO F js F':=by repeat (first | exact SC | (apply SB; exact rfl))):CO F js F':=h
theorem Sn:oR D [] []:=trivial
theorem Sm {i:Nat} {is:List Nat} (h:D[i]? = some r) (k:oR D is D'):oR D (i::is) (r::D'):=⟨h,k⟩
theorem Rd {is:List Nat} (h:oR D is D':=by repeat (first | exact Sn | (apply Sm; exact rfl))):oR D is D':=h
theorem oR.app:∀ {is js:List Nat} {D0 D1:List cT},oR D is D0->oR D js D1->oR D (is++js) (D0++D1)
 | [],_,[],_,_,k=>k
 | [],_,_::_,_,h,_=>h.elim
 | _::_,_,[],_,h,_=>h.elim
 | _::_,_,_::_,_,h,k=>⟨h.1,oR.app h.2 k⟩
section
variable {F':List cq} {a:Act} {w:World} {D0 D1:List cT} {α β:Type} {R:a6 α} {R2:a6 β} {xs:List α} {ys:List β} {vv v2:Value} {cl xJ:bI} {e e2:TypeId}
theorem St.mt (h:St W M T n G D F a w) (is js:List Nat) (hG:Na G G':=by repeat (first | exact trivial | refine⟨rfl,?_⟩)) (hD:oR D is D':=by exact Rd) (hF:CO F js F':=by exact So) (hn:is.Nodup:=by decide):St W M T n G' D' F' a w:=h.meet is hn hG hD hF.to
theorem St.sl (h:St W M T n G D F a w) (is js:List Nat) (hD:oR D is D':=by exact Rd) (hF:CO F js F':=by exact So) (hn:is.Nodup:=by decide):St W M T n [] D' F' a w:=h.meet is hn trivial hD hF.to
theorem St.rd (h:St W M T n G D F a w) (is:List Nat) (hD:oR D is D':=by exact Rd) (hn:is.Nodup:=by decide):St W M T n G D' F a w:=h.reD is hn hD
theorem St.re (h:St W M T n G D F a w) (is js:List Nat) (h0:oR D is D0:=by exact Rd) (h1:oR D js D1:=by exact Rd) (hn:(is++js).Nodup:=by decide):St W M T n G (D0++D1) F a w:=h.reD (is++js) hn (h0.app h1)
theorem St.fS (h:St W M T n G D F a w) (k:aF R (dT T D) w vv xs):St W M T n G D (aL R vv xs::F) a w:=h.fact (aL R vv xs) k
theorem St.fR (h:St W M T n G D F a w) (k:bk R (dT T D) w cl xs):St W M T n G D (ap R cl xs::F) a w:=h.fact (ap R cl xs) k
theorem St.fM {κ ν:Type} {RK:a6 κ} {ak:Bool} {RV:a6 ν} {av:Bool} {es:Array MapEntry} {ms:List (κ×ν)} (h:St W M T n G D F a w) (k:bE RK ak RV av (dT T D) w es ms):St W M T n G D (gw RK ak RV av es ms::F) a w:=h.fact (gw RK ak RV av es ms) k
theorem eL (U:∀ rs:List cT,(∀ r∈rs,r.ok w'/\∀ k,r.dom k->w.heap.size<=k)->(rs.Pairwise fun r s=>∀ k,r.dom k->¬ s.dom k)->St W M T n G (rs++D) F a w'):St W M T n G D F a w':=U [] (fun r hr=>by cases hr) pY
theorem qs (U:∀ rs:List cT,(∀ r∈rs,r.ok w'/\∀ k,r.dom k->w.heap.size<=k)->(rs.Pairwise fun r s=>∀ k,r.dom k->¬ s.dom k)->St W M T n G (rs++D) F a w') (h:gG R (dT T D) w w' [.own vv e R.size cl] e vv cl xs) (h0:0<R.size:=by decide):St W M T n G ([.own vv e R.size cl]++D) (ap R cl xs::F) a w' :=
 (U [.own vv e R.size cl] (gc ⟨h.1,h0⟩ h.2.1) (wX _)).fact (ap R cl xs) (h.2.2.keep (al _ _) (eY _))
theorem Ar (U:∀ rs:List cT,(∀ r∈rs,r.ok w'/\∀ k,r.dom k->w.heap.size<=k)->(rs.Pairwise fun r s=>∀ k,r.dom k->¬ s.dom k)->St W M T n G (rs++D) F a w') (h:gG R (dT T D) w w' [.own vv e R.size cl,.own v2 e2 R2.size xJ] e vv cl xs) (k:gG R2 (dT T D) w w' [.own vv e R.size cl,.own v2 e2 R2.size xJ] e2 v2 xJ ys) (hp:∀ k,vv.ownBlock=some k->v2.ownBlock≠some k) (h0:0<R.size:=by decide) (k0:0<R2.size:=by decide):St W M T n G ([.own vv e R.size cl,.own v2 e2 R2.size xJ]++D) (ap R2 xJ ys::ap R cl xs::F) a w' :=
 ((U [.own vv e R.size cl,.own v2 e2 R2.size xJ] (Pi ⟨h.1,h0⟩ h.2.1 ⟨k.1,k0⟩ k.2.1) (Sz hp)).fact (ap R cl xs) (h.2.2.keep (al _ _) (eY _))).fact (ap R2 xJ ys) (k.2.2.keep (al _ _) (eY _))
theorem SA {is:List Nat} (h:oR D is D':=by repeat (first | exact Sn | (apply Sm; exact fI))):oR D is D':=h
theorem St.mtS {is:List Nat} (h:St W M T n G D F a w) (hG:Na G G':=by repeat (first | exact trivial | refine⟨rfl,?_⟩)) (hD:oR D is D':=by exact SA) (hF:Fd F F':=by repeat (first | exact trivial | refine⟨fD,?_⟩)) (hn:is.Nodup:=by decide):St W M T n G' D' F' a w:=h.meet is hn hG hD hF
end
theorem lo {R Y:Type} {u r:R} {f:Fl S R} {k:R->Option Y} {y:Y} (B:some (Fl.out u)=some f) (hf:∀ u,f = .out u->u=r) (O:k r=some y):k u=some y:=by
 rw [hf u (bM B).symm]; exact O
theorem QW {R Y S2:Type} {s:S2} {r:Fl S2 R} {f:Fl S (Fl S2 R)} {p:S2->Option Y} {q:R->Option Y} {y:Y} (B:some (Fl.out (Fl.go s))=some f) (hf:∀ u,f = .out u->u=r) (O:Fl.el r p q=some y):p s=some y:=by
 have h:=hf _ (bM B).symm;subst h; exact O
theorem NQ {R Y S2:Type} {s:R} {r:Fl S2 R} {f:Fl S (Fl S2 R)} {p:S2->Option Y} {q:R->Option Y} {y:Y} (B:some (Fl.out (Fl.out s))=some f) (hf:∀ u,f = .out u->u=r) (O:Fl.el r p q=some y):q s=some y:=by
 have h:=hf _ (bM B).symm;subst h; exact O
theorem cd {α:Type} {b:Bool} {x y r:α} (h:cond b x y=r):(b=true/\x=r)∨(b=false/\y=r):=by cases b <;> simp_all
theorem go {a:Act} {w:World} (I:St W M T n G D F a w) (k:∀ a w,St W M T n G' D' F a w->X' a w) (h:Rn W M T n F false G D X G' D' X':=by exact Pf):X a w:=h w (fun a w' _ I=>k a w' I) a I
theorem QR {a:Act} {w:World} (I:St W M T n G D F a w) (k:∀ a,St W M T n G' D' F a w->X' a w) (h:Rn W M T n F true G D X G' D' X':=by exact Su):X a w:=h w (fun a w' e I=>by cases e rfl; exact k a I) a I
theorem am {a:Act} {w:World} (I:St W M T n G D F a w) (k:∀ a,St W M T n G' D' F a w->X' a w) (h:Rn W M T n F true G D X G' D' X':=by exact Pf):X a w:=h w (fun a w' e I=>by cases e rfl; exact k a I) a I
section
variable {a:Act} {w:World} {E:Nat->Prop} {o:Oper} {fuel:Nat} {ls:Array Bool} {mods:List (Nat×Tn)} {cs us:bI} {ag:Bool} {Z bb off:Nat} {bt e:TypeId} {xx yy X Y:Operand} {g:Option (Nat×Bool)} {args:Array Operand} {tys:Array TypeId} {f:Nat} {vs:bI} {R:Value->World->Prop} {fn:Func}
theorem en {c:Code} {L:World} {av:bI} (hf:P.funcs[f]? = some fn) (hn:fn.ntmps=n) (hT:∀ k,T k->k<L.heap.size) (h:∀ a,St L M T n (nk 0 av) [] [] a L->c.wp P (bodyPost P fn (Pe M L R)) a L) (hb:fn.body=some c:=by rfl) (hl:Nat.ble av.length n=true:=by rfl):bg P M f av L R:=enter hf hb T n hn hT hl h
theorem ka (I:St W M T n G D F a w) (hz:ip P tt=some cs) (k:∀ b,w.heap.size<=b->∀ a w',Kt No w w'->St W M T n ((d,.pointer (some ⟨b,0,none⟩))::G) (.box b cs tt::D) F a w'->wpList P ops Q l a w') (hn:Nat.blt d n=true:=by rfl):wpList P ops Q (⟨some d,.alloc tt,ty,pos,af,none⟩::l) a w:=wl rfl (df I hz hn k)
theorem kb (I:St W M T n G D F a w) (k:∀ b,w.heap.size<=b->∀ a w',Kt No w w'->St W M T n ((d,.pointer (some ⟨b,0,none⟩))::G) (.box b cs tt::D) F a w'->wpList P ops Q l a w') (hx:ev G X=some v:=by rfl) (hv:Cl Z v cs:=by exact Oh) (hn:Nat.blt d n=true:=by rfl):wpList P ops Q (⟨some d,.box tt X,ty,pos,af,none⟩::l) a w:=wl rfl (FM I hx hv.1 hn k)
theorem kc (I:St W M T n G D F a w) (hf:aS P f=true) (hc:bg P No f vs w R)
  (k:∀ v w',R v w'->∀ a,Kt No w w'->(∀ rs:List cT,(∀ r∈rs,r.ok w'/\∀ k,r.dom k->w.heap.size<=k)->(rs.Pairwise fun r s=>∀ k,r.dom k->¬ s.dom k)->St W M T n ((d,v)::G) (rs++D) F a w')->wpList P ops Q l a w') (hargs:evs G args.toList=some vs:=by rfl) (hn:Nat.blt d n=true:=by rfl):wpList P ops Q (⟨some d,.call { callee:=.value (.func f),args:=args,argTypes:=tys },ty,pos,af,none⟩::l) a w:=wl rfl (bB I hf hargs hn hc k)
theorem kE (I:St W M T n G D F a w) (hf:aS P f=true) (hc:bg P No f vs w (fun v _=>v=v0)) (k:∀ w' a,St W M T n ((d,v0)::G) D F a w'->wpList P ops Q l a w') (hargs:evs G args.toList=some vs:=by rfl) (hn:Nat.blt d n=true:=by rfl):wpList P ops Q (⟨some d,.call { callee:=.value (.func f),args:=args,argTypes:=tys },ty,pos,af,none⟩::l) a w :=
 kc I hf hc (fun v w' C a _ U=>by subst C; exact k w' a (eL U)) hargs hn
theorem kF (I:St W M T n G D F a w) (hf:aS P f=true) (hc:bg P No f vs w (fun v _=>v=v0)) (k:∀ w' a,St W M T n G' D' F a w'->X' a w') (hargs:evs G args.toList=some vs:=by rfl) (hn:Nat.blt d n=true:=by rfl) (h:Rn W M T n F true ((d,v0)::G) D (fun a w=>wpList P ops Q l a w) G' D' X':=by exact Pf):wpList P ops Q (⟨some d,.call { callee:=.value (.func f),args:=args,argTypes:=tys },ty,pos,af,none⟩::l) a w :=
 kE I hf hc (fun w' a I=>am I (k w') h) hargs hn
theorem kA {X:Act->World->Prop} (I:St W M T n G D F a w) (hz:ip P tt=some cs) (k:∀ b,w.heap.size<=b->∀ a w',Kt No w w'->St W M T n ((d,.pointer (some ⟨b,0,none⟩))::G') (.box b cs tt::D') F a w'->wpList P ops Q l a w') (h:Rn W M T n F true G D X G' D' (fun a w=>wpList P ops Q (⟨some d,.alloc tt,ty,pos,af,none⟩::l) a w):=by exact Pf) (hn:Nat.blt d n=true:=by rfl):X a w:=am I (fun a I=>ka I hz k hn) h
theorem kB {X:Act->World->Prop} {X0:Operand} (I:St W M T n G D F a w) (k:∀ b,w.heap.size<=b->∀ a w',Kt No w w'->St W M T n ((d,.pointer (some ⟨b,0,none⟩))::G') (.box b cs tt::D') F a w'->wpList P ops Q l a w') (h:Rn W M T n F true G D X G' D' (fun a w=>wpList P ops Q (⟨some d,.box tt X0,ty,pos,af,none⟩::l) a w):=by exact Pf) (hx:ev G' X0=some v:=by rfl) (hv:Cl Z v cs:=by exact Oh) (hn:Nat.blt d n=true:=by rfl):X a w:=am I (fun a I=>kb I k hx hv hn) h
theorem e1 (i:Nat) (h:su P o a w (fun a' w'=>M9 mods i w w'/\tE P ops Q mods fuel (ls.setIfInBounds i true) a' w')) (hi:ops[i]? = some o:=by rfl) (hr:Region.ready .any ops ls=[i]:=by kernel_rfl) (hg:o.guard=none:=by rfl):tE P ops Q mods (fuel+1) ls a w:=vG hi hr hg h
theorem ec (i:Nat) (I:St W M T n G D F a w) (hf:aS P f=true) (hc:bg P No f vs w R)
  (k:∀ v w',R v w'->∀ a,Kt No w w'->(∀ rs:List cT,(∀ r∈rs,r.ok w'/\∀ k,r.dom k->w.heap.size<=k)->(rs.Pairwise fun r s=>∀ k,r.dom k->¬ s.dom k)->St W M T n ((d,v)::G) (rs++D) F a w')->tE P ops Q mods fuel (ls.setIfInBounds i true) a w') (hi:ops[i]? = some ⟨some d,.call { callee:=.value (.func f),args:=args,argTypes:=tys },ty,pos,af,none⟩:=by rfl) (hr:Region.ready .any ops ls=[i]:=by kernel_rfl) (hargs:evs G args.toList=some vs:=by rfl) (hn:Nat.blt d n=true:=by rfl):tE P ops Q mods (fuel+1) ls a w :=
 vG hi hr rfl (bB I hf hargs hn hc fun v w' C a O U=>⟨fq O,k v w' C a O U⟩)
theorem es (i:Nat) [ct:ua P tt ag Z] {q:Nat} (I:St W M T n G D F a w) (k:∀ w',St W M T n G (D.set q (.box bb (nM cs off us) bt)) F a w'->tE P ops Q mods fuel (ls.setIfInBounds i true) a w') (hi:ops[i]? = some ⟨none,.store tt xx yy,ty,pos,af,none⟩:=by rfl) (hr:Region.ready .any ops ls=[i]:=by kernel_rfl) (hx:ev G xx=some (.pointer (some ⟨bb,off,none⟩)):=by rfl) (hD:D[q]? = some (.box bb cs bt):=by exact fI) (hy:ev G yy=some v:=by rfl) (h1:Cl Z v us:=by exact Oh) (h2:∀ u∈us,u.oneCell'=true:=by exact QX) (hl:Nat.ble (off+Z) cs.length=true:=by rfl) (hm:xR mods i=[.blk (some bb)]:=by rfl):tE P ops Q mods (fuel+1) ls a w :=
 vG hi hr rfl (vd I hx hy h1.1 ct.h q hD h1.2 hl h2 fun w' O I=>⟨jf hm O gB,k w' I⟩)
theorem eD (h:Q .normal a w) (hr:Region.ready .any ops ls=[]:=by kernel_rfl):tE P ops Q mods fuel ls a w:=Gx hr h fuel
theorem dr {N:Nat} (mods:List (Nat×Tn)) (I:St W M T n G D F a w) (h:∀ w,Qp Q->St W M T n G D F a w->tE P l.toArray Q mods N (Array.replicate N false) a w) (hm:P.follows .mixedOrders=true:=by exact mixed) (hN:l.length=N:=by rfl) (hQ:Qp Q:=by exact (fun c a d v w h=>by cases d <;> exact h)):(Code.region id l.toArray true).wp P Q a w:=NO mods I hm hN hQ h
theorem rC [ct:ua P tt ag Z] {c:Nat} (i:Nat) (I:St W M T n G D F a w) (hv:lk G c=some (.pointer (some ⟨bb,0,none⟩)):=by rfl) (hi:D[i]? = some (.box bb cs bt):=by rfl) (hl:cs.length=Z:=by rfl) (hz:ag=false->Z=1:=by first | exact (fun h=>by cases h) | exact fun _=>rfl):xh P a w [.cell c tt] [bD ag cs]:=bC I hv i hi ct.h hl hz aI
end
theorem fin {p:Prop} (h:p:=by
 first
 | ((repeat (apply AQ)); exact⟨I.mtS,B⟩)
 | (refine⟨_,(bM B).symm,?_⟩; (repeat (apply AQ)); exact⟨rfl,I.mtS⟩)
 | (cases B; exact aG I rfl (aw I rfl aI) rfl)
 | (have B:=QW B hf1 hMo1; first | ((repeat (apply AQ)); exact⟨I.mtS,B⟩) | (cases B; exact aG I rfl (aw I rfl aI) rfl))
 | (have B:=NQ B hf1 hMo1; first | ((repeat (apply AQ)); exact⟨I.mtS,B⟩) | (cases B; exact aG I rfl (aw I rfl aI) rfl))
 | (have B:=lo B hf1 hMo1; first | ((repeat (apply AQ)); exact⟨I.mtS,B⟩) | (cases B; exact aG I rfl (aw I rfl aI) rfl))
 | (have B:=QW B hf2 hMo2; first | ((repeat (apply AQ)); exact⟨I.mtS,B⟩) | (cases B; exact aG I rfl (aw I rfl aI) rfl))
 | (have B:=NQ B hf2 hMo2; first | ((repeat (apply AQ)); exact⟨I.mtS,B⟩) | (cases B; exact aG I rfl (aw I rfl aI) rfl))
 | (have B:=lo B hf2 hMo2; first | ((repeat (apply AQ)); exact⟨I.mtS,B⟩) | (cases B; exact aG I rfl (aw I rfl aI) rfl))):p:=h
theorem fz {p:Prop} (h:p:=by
 refine go I fun a w I=>?_
 repeat' (first | exact fin | (rcases cd B with⟨_,B⟩|⟨_,B⟩ <;> refine go I fun a w I=>?_))):p:=h
end
end
section
variable {P:Program} {W:World} {M T:Nat->Prop} {n:Nat} {G G':List (Nat×Value)} {D D':List cT} {F F':List cq} {a:Act} {w:World} {ops:Array Oper} {Q:Exit->Act->World->Prop} {fuel:Nat} {listed:Array Bool} {mods:List (Nat×Tn)} {l:List Tn} {o:Oper} {v:Value} {d j t:Nat} {want c:Bool}
theorem dq (i:Nat) (I:St W M T n G D F a w) (h:Ye P o a (Eo l) w v) (k:∀ a,St W M T n ((d,v)::G) D F a w->tE P ops Q mods fuel (listed.setIfInBounds i true) a w) (hQ:Qp Q:=by assumption) (hi:ops[i]? = some o:=by rfl) (hg:o.guard=none:=by rfl) (hd:o.dst=some d:=by rfl) (hn:Nat.blt d n=true:=by rfl)
  (hb:rem ops mods listed i=l:=by first | rfl | kernel_rfl) (hs:Region.noSelect ops=true:=by kernel_rfl) (hf:Region.free .any ops listed i=true:=by kernel_rfl) (hr:(Region.ready .any ops listed).contains i=true:=by kernel_rfl):tE P ops Q mods (fuel+1) listed a w:=dy i hi hs hf hr hb hQ I h hg hd hn k
theorem dg (i:Nat) (I:St W M T n G D F a w) (hc:c=want) (h:Ye P o a (Eo l) w v) (k:∀ a,St W M T n ((d,v)::G) D F a w->tE P ops Q mods fuel (listed.setIfInBounds i true) a w) (hQ:Qp Q:=by assumption) (hi:ops[i]? = some o:=by rfl) (hg:o.guard=some (j,want):=by rfl) (hj:(ops[j]?).bind (·.dst)=some t:=by rfl) (ht:lk G t=some (.bool c):=by rfl) (hd:o.dst=some d:=by rfl) (hn:Nat.blt d n=true:=by rfl)
  (hb:rem ops mods listed i=l:=by first | rfl | kernel_rfl) (hs:Region.noSelect ops=true:=by kernel_rfl) (hf:Region.free .any ops listed i=true:=by kernel_rfl) (hr:(Region.ready .any ops listed).contains i=true:=by kernel_rfl):tE P ops Q mods (fuel+1) listed a w:=Sh i hi hs hf hr hb hQ I h hg hj ht hc hd hn k
end
section
variable {P:Program} {W:World} {M T:Nat->Prop} {n:Nat} {G:List (Nat×Value)} {D D0 Dr:List cT} {F:List cq} {a:Act} {w:World} {f z0 z1 z2 z3 z4 z5 z6 z7 z8 z9 z10 z11 z12 z13 z14 z15 z16 z17 z18 z19 z20 z21 z22 z23 z24 z25 z26 z27 z28 z29 z30:cq}
theorem St.g0 (h:St W M T n G D (f::F) a w):f.p (dT T D) w:=h.get 0 rfl
theorem St.d0 (h:St W M T n G (D0++Dr) (f::F) a w):f.p (dT (dT T Dr) D0) w:=h.getD 0 rfl
theorem St.g1 (h:St W M T n G D (z0::f::F) a w):f.p (dT T D) w:=h.get 1 rfl
theorem St.d1 (h:St W M T n G (D0++Dr) (z0::f::F) a w):f.p (dT (dT T Dr) D0) w:=h.getD 1 rfl
theorem St.g2 (h:St W M T n G D (z0::z1::f::F) a w):f.p (dT T D) w:=h.get 2 rfl
theorem St.d2 (h:St W M T n G (D0++Dr) (z0::z1::f::F) a w):f.p (dT (dT T Dr) D0) w:=h.getD 2 rfl
theorem St.g3 (h:St W M T n G D (z0::z1::z2::f::F) a w):f.p (dT T D) w:=h.get 3 rfl
theorem St.d3 (h:St W M T n G (D0++Dr) (z0::z1::z2::f::F) a w):f.p (dT (dT T Dr) D0) w:=h.getD 3 rfl
theorem St.g4 (h:St W M T n G D (z0::z1::z2::z3::f::F) a w):f.p (dT T D) w:=h.get 4 rfl
theorem St.d4 (h:St W M T n G (D0++Dr) (z0::z1::z2::z3::f::F) a w):f.p (dT (dT T Dr) D0) w:=h.getD 4 rfl
theorem St.g5 (h:St W M T n G D (z0::z1::z2::z3::z4::f::F) a w):f.p (dT T D) w:=h.get 5 rfl
theorem St.d5 (h:St W M T n G (D0++Dr) (z0::z1::z2::z3::z4::f::F) a w):f.p (dT (dT T Dr) D0) w:=h.getD 5 rfl
theorem St.g6 (h:St W M T n G D (z0::z1::z2::z3::z4::z5::f::F) a w):f.p (dT T D) w:=h.get 6 rfl
theorem St.d6 (h:St W M T n G (D0++Dr) (z0::z1::z2::z3::z4::z5::f::F) a w):f.p (dT (dT T Dr) D0) w:=h.getD 6 rfl
theorem St.g7 (h:St W M T n G D (z0::z1::z2::z3::z4::z5::z6::f::F) a w):f.p (dT T D) w:=h.get 7 rfl
theorem St.d7 (h:St W M T n G (D0++Dr) (z0::z1::z2::z3::z4::z5::z6::f::F) a w):f.p (dT (dT T Dr) D0) w:=h.getD 7 rfl
theorem St.g8 (h:St W M T n G D (z0::z1::z2::z3::z4::z5::z6::z7::f::F) a w):f.p (dT T D) w:=h.get 8 rfl
theorem St.d8 (h:St W M T n G (D0++Dr) (z0::z1::z2::z3::z4::z5::z6::z7::f::F) a w):f.p (dT (dT T Dr) D0) w:=h.getD 8 rfl
theorem St.g9 (h:St W M T n G D (z0::z1::z2::z3::z4::z5::z6::z7::z8::f::F) a w):f.p (dT T D) w:=h.get 9 rfl
theorem St.d9 (h:St W M T n G (D0++Dr) (z0::z1::z2::z3::z4::z5::z6::z7::z8::f::F) a w):f.p (dT (dT T Dr) D0) w:=h.getD 9 rfl
theorem St.g10 (h:St W M T n G D (z0::z1::z2::z3::z4::z5::z6::z7::z8::z9::f::F) a w):f.p (dT T D) w:=h.get 10 rfl
theorem St.d10 (h:St W M T n G (D0++Dr) (z0::z1::z2::z3::z4::z5::z6::z7::z8::z9::f::F) a w):f.p (dT (dT T Dr) D0) w:=h.getD 10 rfl
theorem St.g11 (h:St W M T n G D (z0::z1::z2::z3::z4::z5::z6::z7::z8::z9::z10::f::F) a w):f.p (dT T D) w:=h.get 11 rfl
theorem St.d11 (h:St W M T n G (D0++Dr) (z0::z1::z2::z3::z4::z5::z6::z7::z8::z9::z10::f::F) a w):f.p (dT (dT T Dr) D0) w:=h.getD 11 rfl
theorem St.g12 (h:St W M T n G D (z0::z1::z2::z3::z4::z5::z6::z7::z8::z9::z10::z11::f::F) a w):f.p (dT T D) w:=h.get 12 rfl
theorem St.d12 (h:St W M T n G (D0++Dr) (z0::z1::z2::z3::z4::z5::z6::z7::z8::z9::z10::z11::f::F) a w):f.p (dT (dT T Dr) D0) w:=h.getD 12 rfl
theorem St.g13 (h:St W M T n G D (z0::z1::z2::z3::z4::z5::z6::z7::z8::z9::z10::z11::z12::f::F) a w):f.p (dT T D) w:=h.get 13 rfl
theorem St.d13 (h:St W M T n G (D0++Dr) (z0::z1::z2::z3::z4::z5::z6::z7::z8::z9::z10::z11::z12::f::F) a w):f.p (dT (dT T Dr) D0) w:=h.getD 13 rfl
theorem St.g14 (h:St W M T n G D (z0::z1::z2::z3::z4::z5::z6::z7::z8::z9::z10::z11::z12::z13::f::F) a w):f.p (dT T D) w:=h.get 14 rfl
theorem St.d14 (h:St W M T n G (D0++Dr) (z0::z1::z2::z3::z4::z5::z6::z7::z8::z9::z10::z11::z12::z13::f::F) a w):f.p (dT (dT T Dr) D0) w:=h.getD 14 rfl
theorem St.g15 (h:St W M T n G D (z0::z1::z2::z3::z4::z5::z6::z7::z8::z9::z10::z11::z12::z13::z14::f::F) a w):f.p (dT T D) w:=h.get 15 rfl
theorem St.g16 (h:St W M T n G D (z0::z1::z2::z3::z4::z5::z6::z7::z8::z9::z10::z11::z12::z13::z14::z15::f::F) a w):f.p (dT T D) w:=h.get 16 rfl
theorem St.d16 (h:St W M T n G (D0++Dr) (z0::z1::z2::z3::z4::z5::z6::z7::z8::z9::z10::z11::z12::z13::z14::z15::f::F) a w):f.p (dT (dT T Dr) D0) w:=h.getD 16 rfl
theorem St.g17 (h:St W M T n G D (z0::z1::z2::z3::z4::z5::z6::z7::z8::z9::z10::z11::z12::z13::z14::z15::z16::f::F) a w):f.p (dT T D) w:=h.get 17 rfl
theorem St.g18 (h:St W M T n G D (z0::z1::z2::z3::z4::z5::z6::z7::z8::z9::z10::z11::z12::z13::z14::z15::z16::z17::f::F) a w):f.p (dT T D) w:=h.get 18 rfl
theorem St.g19 (h:St W M T n G D (z0::z1::z2::z3::z4::z5::z6::z7::z8::z9::z10::z11::z12::z13::z14::z15::z16::z17::z18::f::F) a w):f.p (dT T D) w:=h.get 19 rfl
theorem St.g20 (h:St W M T n G D (z0::z1::z2::z3::z4::z5::z6::z7::z8::z9::z10::z11::z12::z13::z14::z15::z16::z17::z18::z19::f::F) a w):f.p (dT T D) w:=h.get 20 rfl
theorem St.d20 (h:St W M T n G (D0++Dr) (z0::z1::z2::z3::z4::z5::z6::z7::z8::z9::z10::z11::z12::z13::z14::z15::z16::z17::z18::z19::f::F) a w):f.p (dT (dT T Dr) D0) w:=h.getD 20 rfl
theorem St.d21 (h:St W M T n G (D0++Dr) (z0::z1::z2::z3::z4::z5::z6::z7::z8::z9::z10::z11::z12::z13::z14::z15::z16::z17::z18::z19::z20::f::F) a w):f.p (dT (dT T Dr) D0) w:=h.getD 21 rfl
theorem St.d22 (h:St W M T n G (D0++Dr) (z0::z1::z2::z3::z4::z5::z6::z7::z8::z9::z10::z11::z12::z13::z14::z15::z16::z17::z18::z19::z20::z21::f::F) a w):f.p (dT (dT T Dr) D0) w:=h.getD 22 rfl
theorem St.g24 (h:St W M T n G D (z0::z1::z2::z3::z4::z5::z6::z7::z8::z9::z10::z11::z12::z13::z14::z15::z16::z17::z18::z19::z20::z21::z22::z23::f::F) a w):f.p (dT T D) w:=h.get 24 rfl
theorem St.d24 (h:St W M T n G (D0++Dr) (z0::z1::z2::z3::z4::z5::z6::z7::z8::z9::z10::z11::z12::z13::z14::z15::z16::z17::z18::z19::z20::z21::z22::z23::f::F) a w):f.p (dT (dT T Dr) D0) w:=h.getD 24 rfl
theorem St.g26 (h:St W M T n G D (z0::z1::z2::z3::z4::z5::z6::z7::z8::z9::z10::z11::z12::z13::z14::z15::z16::z17::z18::z19::z20::z21::z22::z23::z24::z25::f::F) a w):f.p (dT T D) w:=h.get 26 rfl
theorem St.g27 (h:St W M T n G D (z0::z1::z2::z3::z4::z5::z6::z7::z8::z9::z10::z11::z12::z13::z14::z15::z16::z17::z18::z19::z20::z21::z22::z23::z24::z25::z26::f::F) a w):f.p (dT T D) w:=h.get 27 rfl
theorem St.g29 (h:St W M T n G D (z0::z1::z2::z3::z4::z5::z6::z7::z8::z9::z10::z11::z12::z13::z14::z15::z16::z17::z18::z19::z20::z21::z22::z23::z24::z25::z26::z27::z28::f::F) a w):f.p (dT T D) w:=h.get 29 rfl
end
end
section
structure az where
  l:(List aN)
  b:ah
  e:(List (ae×ByteArray))
  h:(List (ae×(List ae)))
structure t8 where
  c1:Bool
  u:ByteArray
  x1:ae
theorem Dp:aS aR 114=true:=by kernel_rfl
theorem P5:aS aR 172=true:=by kernel_rfl
theorem wa:aS aR 173=true:=by kernel_rfl
theorem Qd:aS aR 184=true:=by kernel_rfl
theorem Ny:aS aR 185=true:=by kernel_rfl
theorem Kb:aS aR 207=true:=by kernel_rfl
theorem ND:aS aR 208=true:=by kernel_rfl
theorem H8:aS aR 210=true:=by kernel_rfl
theorem H9:aS aR 211=true:=by kernel_rfl
theorem Kc:aS aR 222=true:=by kernel_rfl
theorem Qw:aS aR 242=true:=by kernel_rfl
theorem Qx:aS aR 243=true:=by kernel_rfl
theorem NK:aS aR 244=true:=by kernel_rfl
theorem ut:Hr aR 220=some (30,9):=by kernel_rfl
theorem NS:Hr aR 221=some (30,31):=by kernel_rfl
theorem Q4:DL aR 223=some [(0,1),(1,3),(4,1),(5,1)]:=by kernel_rfl
theorem yW:DL aR 225=some [(0,1),(1,1),(2,2)]:=by kernel_rfl
theorem Lp:lA aR 253=some 257:=by kernel_rfl
theorem Rr:ip aR 223=some [.slice none 0 0,.int .i64 0,.slice none 0 0,.slice none 0 0,.map none,.map none]:=by kernel_rfl
theorem nP:ip aR 225=some [.bool false,.string cp,.int .i64 0,.string cp]:=by kernel_rfl
theorem N7:L3 aR 9=some (.string cp):=by kernel_rfl
end
section
theorem Fp:aS aR 113=true:=by kernel_rfl
theorem PM:aS aR 141=true:=by kernel_rfl
theorem PN:aS aR 142=true:=by kernel_rfl
theorem Qe:aS aR 186=true:=by kernel_rfl
theorem Ia:aS aR 212=true:=by kernel_rfl
theorem NE:aS aR 214=true:=by kernel_rfl
theorem NF:aS aR 215=true:=by kernel_rfl
theorem NG:aS aR 216=true:=by kernel_rfl
theorem NH:aS aR 217=true:=by kernel_rfl
theorem NJ:aS aR 223=true:=by kernel_rfl
theorem Qt:aS aR 224=true:=by kernel_rfl
theorem Qy:aS aR 248=true:=by kernel_rfl
theorem QG:aS aR 39=true:=by kernel_rfl
theorem K3:DL aR 202=some [(0,2),(2,1),(3,1),(4,1),(5,1)]:=by kernel_rfl
theorem Gt:qp aR 257=some (true,4):=by kernel_rfl
end
section
theorem Nn:aS aR 144=true:=by kernel_rfl
theorem PO:aS aR 145=true:=by kernel_rfl
theorem PP:aS aR 146=true:=by kernel_rfl
theorem Qg:aS aR 188=true:=by kernel_rfl
theorem J9:aS aR 189=true:=by kernel_rfl
theorem C3:DL aR 25=some [(0,1),(1,1),(2,1)]:=by kernel_rfl
end
section
variable {pos:String} {af:Array Edge} {g:Option (Nat×Bool)}
section
variable {α β:Type} {RI:a6 α} {R:a6 β} {P:Nat->Prop} {W:World} {M T:Nat->Prop} {n:Nat} {G:List (Nat×Value)} {D D0 Dr rs:List cT} {F F0 F1:List cq} {a:Act} {w:World} {e:TypeId} {v1 v2:Value} {xs1:List α} {xs2:List β}
def pS (P:Nat->Prop) (F0:List cq) (R:a6 β) (e:TypeId) (v2:Value) (xs2:List β):cq :=
  ⟨fun T w=>∃ cl,(cT.own v2 e R.size cl).ok w/\(∀ k,(cT.own v2 e R.size cl).dom k->¬ T k/\P k)/\bk R (dT T [.own v2 e R.size cl]) w cl xs2/\∀ f∈F0,f.p (dT T [.own v2 e R.size cl]) w,
   fun h k n=>by
    obtain⟨cl,h1,h2,h3,h4⟩:=h;have hn:∀ j,dT _ [.own v2 e R.size cl] j->dT _ [.own v2 e R.size cl] j∨_:=fun j hj=>by
      rcases hj with hj | hj
      · rcases n j hj with q | q
        · exact .inl (.inl q)
        · exact .inr q
      · exact .inl (.inr hj)
    exact⟨cl,cT.keep h1 fun j hj=>k.block j (cT.lt h1 j hj) (h2 j hj).1,fun j hj=>⟨fun hT=>by
      rcases n j hT with q | q
      · exact (h2 j hj).1 q
      · have:=cT.lt h1 j hj; omega,(h2 j hj).2⟩,h3.keep (k.mono fun j hj=>.inl hj) hn,fun f hf=>f.keep (h4 f hf) (k.mono fun j hj=>.inl hj) hn⟩⟩
theorem St.zg {cl:bI} (I:St W M T n G D F a w) (hP:∀ k,M k∨W.heap.size<=k->P k) (F0:List cq) (hF:Fd F F0) (i:Nat) (hi:D[i]? = some (.own v2 e R.size cl)) (j:Nat) (hj:F[j]? = some (ap R cl xs2)) :
    St W M T n G (D.eraseIdx i) (aL R v2 xs2::pS P F0 R e v2 xs2::F) a w:=by
  have hm:=aO hi;have h2:(pS P F0 R e v2 xs2).p (dT T (D.eraseIdx i)) w:=by
    have hn:∀ k,dT (dT T (D.eraseIdx i)) [.own v2 e R.size cl] k->dT T D k:=fun k O=>(mZ hi k).1 O;refine⟨cl,I.own _ hm,fun k O=>⟨fun hT=>?_,hP k (I.free _ hm k O).2⟩,(show bk R (dT T D) w cl xs2 from I.get j hj).keep (al _ _) fun k O=>.inl (hn k O),fun f hf=>f.keep (I.facts f (hF.mem f hf)) (al _ _) fun k O=>.inl (hn k O)⟩;rcases hT with hT | ⟨s,hs,hT⟩
    · exact (I.free _ hm k O).1 hT
    · exact I.notD i hi O (.inr ⟨s,hs,hT⟩)
  have h3:=I.zf i hi j hj;refine⟨h3.size,h3.defers,h3.slots,h3.base,h3.own,h3.free,h3.apart,fun f hf=>?_,h3.tlt⟩;rcases cI.1 hf with rfl | hf
  · exact h3.facts _ kh
  · rcases cI.1 hf with rfl | hf
    · exact h2
    · exact h3.facts f (uR _ hf)
def JR (F0:List cq) (f:cq):Prop:=∀ (T T':Nat->Prop) w,(∀ g∈F0,g.p T' w)->f.p T w->f.p T' w
theorem St.thawFr (I:St W M T n G D F a w) (i:Nat) (hi:F[i]? = some (pS P F0 R e v2 xs2)) (hP:∀ k,P k->M k∨W.heap.size<=k) (hF:∀ f∈F1,f∈F/\JR F0 f) :
    ∃ cl,St W M T n G (.own v2 e R.size cl::D) (ap R cl xs2::(F1++F0)) a w:=by
  obtain⟨cl,h1,h2,h3,h4⟩:=(show (pS P F0 R e v2 xs2).p _ _ from I.get i hi);have hn:∀ k,dT T (.own v2 e R.size cl::D) k->dT (dT T D) [.own v2 e R.size cl] k:=fun k O=>by
    rcases O with O | ⟨s,hs,O⟩
    · exact .inl (.inl O)
    · rcases cI.1 hs with rfl | hs
      · exact .inr ⟨_,kh,O⟩
      · exact .inl (.inr ⟨s,hs,O⟩)
  have h5:∀ f∈F0,f.p (dT T (.own v2 e R.size cl::D)) w:=fun f hf=>f.keep (h4 f hf) (al _ _) fun k O=>.inl (hn k O);refine⟨cl,I.size,I.defers,I.slots,I.base,fun r hr=>?_,fun r hr k O=>?_,List.Pairwise.cons (fun s hs k O hk2=>(h2 k O).1 (.inr ⟨s,hs,hk2⟩)) I.apart,fun f hf=>?_,I.tlt⟩
  · rcases cI.1 hr with rfl | hr
    · exact h1
    · exact I.own r hr
  · rcases cI.1 hr with rfl | hr
    · exact⟨fun hT=>(h2 k O).1 (.inl hT),hP k (h2 k O).2⟩
    · exact I.free r hr k O
  · rcases cI.1 hf with rfl | hf
    · exact h3.keep (al _ _) fun k O=>.inl (hn k O)
    · rcases cD.1 hf with hf | hf
      · exact (hF f hf).2 _ _ _ h5 (I.facts f (hF f hf).1)
      · exact h5 f hf
theorem St.toP (I:St W M T n G (D0++Dr) F a w) (hP:∀ k,M k∨W.heap.size<=k->P k):∀ k,MD D0 k∨w.heap.size<=k->P k:=fun k O=>hP k (by
  rcases O with⟨r,hr,O⟩ | O
  · exact (I.free r (iB _ hr) k O).2
  · exact .inr (cC I.base.size O))
theorem St.toPm {b:Nat} {cs:bI} {t:TypeId} (I:St W M T n G D F a w) (i:Nat) (hi:D[i]? = some (.box b cs t)) (hP:∀ k,M k∨W.heap.size<=k->P k):∀ k,(fun k=>k=b) k∨w.heap.size<=k->P k:=fun k O=>hP k (by
  rcases O with O | O
  · exact (I.free _ (aO hi) k (by have O:k=b:=O; simp [cT.dom,O])).2
  · exact .inr (cC I.base.size O))
theorem cq.lent {i:Nat} {r:cT} (f:cq) (hi:D[i]? = some r) (h:f.p (dT T D) w):f.p (dT (dT T (D.eraseIdx i)) [r]) w :=
  f.keep h (al _ _) fun k O=>.inl ((mZ hi k).1 O)
theorem cq.back {i:Nat} {r r':cT} (f:cq) (hi:D[i]? = some r) (h:f.p (dT (dT T (D.eraseIdx i)) [r']) w):f.p (dT T (D.set i r')) w:=by
  refine f.keep h (al _ _) fun k O=>.inl ?_;have hl:=(bS.1 hi).1;have:=(mZ (T:=T) (D:=D.set i r') (i:=i) (r:=r') (by rw [CF hl]) k).2 O;rwa [List.eraseIdx_set_eq] at this
theorem cq.up (f:cq) (hi:L5 D rs) (h:f.p (dT T D) w):f.p (dT T rs) w:=f.keep h (al _ _) fun k O=>.inl (hi.sub k O)
theorem FD {R:a6 β} (C:∀ (T T':Nat->Prop) w c x,R.rel T w c x->R.rel T' w c x) {cl:bI} {xs:List β}:JR F0 (ap R cl xs):=by
  intro T T' w _ h;have h:bk R T w cl xs:=h;exact⟨h.1,fun k x hx=>by obtain⟨cs,h1,h2⟩:=h.2 k x hx; exact⟨cs,C _ _ _ _ _ h1,h2⟩⟩
theorem Oq {R:a6 β} (C:∀ (T T':Nat->Prop) w c x,R.rel T w c x->R.rel T' w c x) {v:Value} {xs ys:List β} (i:Nat) (hi:F0[i]? = some (aL R v ys)):JR F0 (aL R v xs):=by
  intro T T' w hg h;obtain⟨A,c,e1,h1⟩:=(show aF R T w v xs from h);obtain⟨B,d,e2,h2⟩:=(show aF R T' w v ys from hg _ (aO hi));obtain⟨a1,a2,a3⟩:=h1;obtain⟨b1,b2,b3⟩:=h2;rw [e1] at e2;injection e2 with e3 e4 e5;refine⟨A,c,e1,a1,a2,?_⟩;rcases a3 with a3 | ⟨b,off,a4,a5⟩
  · exact .inl a3
  · refine .inr ⟨b,off,a4,fun k x hx=>?_⟩;obtain⟨cs,h1,h2⟩:=a5 k x hx;have O:k<ys.length:=by rw [<- e4]; exact (bS.1 hx).1
    rcases b3 with b3 | ⟨b',off',b4,b5⟩
    · rw [b3] at O; cases O
    · obtain⟨cs',h3,h4⟩:=b5 k ys[k] (bA O);rw [a4] at e3;rw [<- e3] at b4;injection b4 with b4;injection b4 with b4;subst b4;exact⟨cs,C _ _ _ _ _ h1,h4.1,h2.2⟩
end
section
variable {P:Program} {W:World} {M T E:Nat->Prop} {n:Nat} {G G':List (Nat×Value)} {D D' D0 Dr rs:List cT} {F F':List cq} {a:Act} {w w':World} {K:Act->World->Prop}
theorem FN {d:Nat} {ty:TypeId} {x:Operand} {args:Array Operand} {tys:Array TypeId} {f:Nat} {vs cap:bI} {R:Value->World->Prop} (I:St W M T n G (D0++Dr) F a w) (hx:ev G x=some (.func (.func f) #[] cap.toArray)) (hf:aS P f=true) (hargs:evs G args.toList=some vs) (hn:Nat.blt d n=true) (hc:bg P (MD D0) f (vs++cap) w R)
    (k:∀ v w',R v w'->∀ a,Kt (MD D0) w w'->(∀ rs,mx w w' D0 rs->St W M T n ((d,v)::G) (rs++Dr) F a w')->K a w'):su P ⟨some d,.call { callee:=.value x,args:=args,argTypes:=tys },ty,pos,af,g⟩ a w K :=
  wR rfl I hx hf hargs hc fun v w' O hr=>k v w' hr _ O (fun rs h=>(I.swapD O h).put hn v)
end
end
section
structure aQ where
  S:az
  B:ah
  g:(List (ae×Bool))
  y:(List ae)
  E:Int
theorem J4:aS aR 118=true:=by kernel_rfl
theorem P6:aS aR 174=true:=by kernel_rfl
theorem P7:aS aR 175=true:=by kernel_rfl
theorem Qo:aS aR 213=true:=by kernel_rfl
theorem K1:DL aR 180=some [(0,1),(1,3),(4,1),(5,1),(6,1)]:=by kernel_rfl
theorem N3:qp aR 173=some (false,1):=by kernel_rfl
theorem Rg:qp aR 43=some (false,1):=by kernel_rfl
theorem L0:ip aR 180=some [.pointer none,.int .i64 0,.slice none 0 0,.slice none 0 0,.map none,.slice none 0 0,.int .i64 0]:=by kernel_rfl
end
section
theorem RD:aS aR 27=true:=by kernel_rfl
theorem Kd:aS aR 29=true:=by kernel_rfl
theorem Mi:aS aR 30=true:=by kernel_rfl
theorem Kf:aS aR 36=true:=by kernel_rfl
theorem Mk:aS aR 37=true:=by kernel_rfl
theorem RF:aS aR 42=true:=by kernel_rfl
theorem Og:aS aR 87=true:=by kernel_rfl
theorem RN:aS aR 88=true:=by kernel_rfl
theorem RO:aS aR 89=true:=by kernel_rfl
theorem RP:aS aR 90=true:=by kernel_rfl
end
section
structure aT where
  k1:Int
  v1:Int
def bN:a6 aT where
  size:=2
  rel:=fun _ _ cs x=>cs=[.int .i64 x.k1,.int .u64 x.v1]
  len:=by rintro _ _ _ _ rfl; rfl
  one:=by rintro _ _ _ _ rfl; exact (oc rfl (oc rfl on))
  keep:=fun h _ _=>h
structure cz where
  d:ae
  d1:aT
def bQ:a6 cz where
  size:=4
  rel:=fun _ _ cs x=>cs=[.int .i64 x.d.v,.string x.d.x,.int .i64 x.d1.k1,.int .u64 x.d1.v1]
  len:=by rintro _ _ _ _ rfl; rfl
  one:=by rintro _ _ _ _ rfl; exact (oc rfl (oc rfl (oc rfl (oc rfl on))))
  keep:=fun h _ _=>h
structure aq where
  d:ae
  k:(List cz)
  u:ByteArray
  j:Int
def ar:a6 aq where
  size:=5
  rel:=fun T w cs x=>∃ v1,cs=[.int .i64 x.d.v,.string x.d.x,v1,.string x.u,.int .i64 x.j]/\aF bQ T w v1 x.k
  len:=by rintro _ _ _ _ ⟨v1,rfl,hv1⟩; rfl
  one:=by rintro _ _ _ _ ⟨v1,rfl,hv1⟩; exact (oc rfl (oc rfl (oc hv1.one (oc rfl (oc rfl on)))))
  keep:=by rintro _ _ _ _ _ _ ⟨v1,rfl,hv1⟩ k n; exact⟨v1,rfl,hv1.keep k n⟩
theorem Nj:aS aR 112=true:=by kernel_rfl
theorem PC:aS aR 115=true:=by kernel_rfl
theorem H5:aS aR 127=true:=by kernel_rfl
theorem Nm:aS aR 134=true:=by kernel_rfl
theorem PJ:aS aR 135=true:=by kernel_rfl
theorem PK:aS aR 136=true:=by kernel_rfl
theorem PL:aS aR 137=true:=by kernel_rfl
theorem PS:aS aR 154=true:=by kernel_rfl
theorem PU:aS aR 158=true:=by kernel_rfl
theorem PW:aS aR 159=true:=by kernel_rfl
theorem PZ:aS aR 164=true:=by kernel_rfl
theorem P1:aS aR 165=true:=by kernel_rfl
theorem P2:aS aR 166=true:=by kernel_rfl
theorem P3:aS aR 168=true:=by kernel_rfl
theorem Ka:aS aR 194=true:=by kernel_rfl
theorem Qm:aS aR 202=true:=by kernel_rfl
theorem Qn:aS aR 203=true:=by kernel_rfl
theorem I1:aS aR 22=true:=by kernel_rfl
theorem Qu:aS aR 226=true:=by kernel_rfl
theorem Qv:aS aR 228=true:=by kernel_rfl
theorem QB:aS aR 255=true:=by kernel_rfl
theorem QC:aS aR 256=true:=by kernel_rfl
theorem Kh:aS aR 54=true:=by kernel_rfl
theorem QI:aS aR 55=true:=by kernel_rfl
theorem QJ:aS aR 56=true:=by kernel_rfl
theorem RH:aS aR 57=true:=by kernel_rfl
theorem QK:aS aR 58=true:=by kernel_rfl
theorem QL:aS aR 59=true:=by kernel_rfl
theorem RJ:aS aR 74=true:=by kernel_rfl
theorem RL:aS aR 75=true:=by kernel_rfl
theorem QM:aS aR 82=true:=by kernel_rfl
theorem sF:CY aR 48=some (51,5,72):=by kernel_rfl
theorem Kp:CY aR 49=some (128,4,40):=by kernel_rfl
theorem QP:CY aR 61=some (5,1,1):=by kernel_rfl
theorem NV:DL aR 105=some [(0,1),(1,1)]:=by kernel_rfl
theorem NW:DL aR 128=some [(0,2),(2,2)]:=by kernel_rfl
theorem Q6:DL aR 51=some [(0,2),(2,1),(3,1),(4,1)]:=by kernel_rfl
theorem ya:lA aR 48=some 51:=by kernel_rfl
theorem Jy:lA aR 49=some 128:=by kernel_rfl
theorem N0:qp aR 105=some (true,2):=by kernel_rfl
theorem DW:qp aR 128=some (true,4):=by kernel_rfl
theorem uM:qp aR 51=some (true,5):=by kernel_rfl
theorem AU:ip aR 105=some [.int .i64 0,.int .u64 0]:=by kernel_rfl
theorem AV:ip aR 128=some [.int .i64 0,.string cp,.int .i64 0,.int .u64 0]:=by kernel_rfl
theorem SN:ip aR 5=some [.int .u8 0]:=by kernel_rfl
theorem uT:ip aR 51=some [.int .i64 0,.string cp,.slice none 0 0,.string cp,.int .i64 0]:=by kernel_rfl
theorem R9:L3 aR 31=some (.slice none 0 0):=by kernel_rfl
end
section
structure eb where
  b:ah
  z:(List (ae×aT))
theorem Pt:aS aR 101=true:=by kernel_rfl
theorem Pu:aS aR 102=true:=by kernel_rfl
theorem J1:aS aR 103=true:=by kernel_rfl
theorem Pv:aS aR 104=true:=by kernel_rfl
theorem Pw:aS aR 105=true:=by kernel_rfl
theorem Px:aS aR 106=true:=by kernel_rfl
theorem Ni:aS aR 107=true:=by kernel_rfl
theorem Py:aS aR 108=true:=by kernel_rfl
theorem Pz:aS aR 109=true:=by kernel_rfl
theorem PA:aS aR 11=true:=by kernel_rfl
theorem J2:aS aR 110=true:=by kernel_rfl
theorem PE:aS aR 12=true:=by kernel_rfl
theorem Np:aS aR 148=true:=by kernel_rfl
theorem PX:aS aR 161=true:=by kernel_rfl
theorem PY:aS aR 162=true:=by kernel_rfl
theorem Qh:aS aR 191=true:=by kernel_rfl
theorem Qk:aS aR 199=true:=by kernel_rfl
theorem Ql:aS aR 20=true:=by kernel_rfl
theorem Mh:aS aR 28=true:=by kernel_rfl
theorem Mj:aS aR 31=true:=by kernel_rfl
theorem QE:aS aR 33=true:=by kernel_rfl
theorem RE:aS aR 34=true:=by kernel_rfl
theorem RG:aS aR 43=true:=by kernel_rfl
theorem RM:aS aR 76=true:=by kernel_rfl
theorem Sf:aS aR 9=true:=by kernel_rfl
theorem RQ:aS aR 93=true:=by kernel_rfl
theorem QN:aS aR 94=true:=by kernel_rfl
theorem In:Hr aR 162=some (30,105):=by kernel_rfl
theorem Q3:DL aR 164=some [(0,3),(3,1)]:=by kernel_rfl
theorem N2:qp aR 162=some (false,1):=by kernel_rfl
theorem GU:ip aR 164=some [.int .i64 0,.slice none 0 0,.slice none 0 0,.map none]:=by kernel_rfl
theorem Rq:ip aR 166=some [.map none]:=by kernel_rfl
theorem Rs:L3 aR 105=some (.agg #[.int .i64 0,.int .u64 0]):=by kernel_rfl
theorem On {W:World} {M T E:Nat->Prop} {n:Nat} {G:List (Nat×Value)} {D:List cT} {F:List cq} {a:Act} {w:World} {d:Option Nat} {t2:TypeId} {x y:Operand} {ty:TypeId} {pos:String} {af:Array Edge} {g:Option (Nat×Bool)} {p0 q0:Int} {p1 q1:Int} (I:St W M T n G D F a w) (hx:ev G x=some (.agg #[.int .i64 p0,.int .u64 p1])) (hy:ev G y=some (.agg #[.int .i64 q0,.int .u64 q1])):Ye aR ⟨d,.binOp .neq 105 x y t2,ty,pos,af,g⟩ a E w (.bool (!(p0==q0&&p1==q1))) :=
  Ye.of fun w=>by
    have h1:=I.ev hx
    have h2:=I.ev hy
    clear I hx hy
    simp only [execOp,h1,h2,eqGuard]
    simp [go_sem]
    (repeat' split) <;> simp_all
end
section
instance:ua aR 103 false 1:=⟨by kernel_rfl⟩
instance:ua aR 105 true 2:=⟨N0⟩
instance:ua aR 128 true 4:=⟨DW⟩
instance:ua aR 221 false 1:=⟨by kernel_rfl⟩
instance:ua aR 49 false 1:=⟨by kernel_rfl⟩
instance:ua aR 51 true 5:=⟨uM⟩
instance:oz aR 105 0 0:=⟨by kernel_rfl⟩
instance:oz aR 105 1 1:=⟨by kernel_rfl⟩
instance:oz aR 128 0 0:=⟨by kernel_rfl⟩
instance:oz aR 128 1 2:=⟨by kernel_rfl⟩
instance:oz aR 223 3 5:=⟨by kernel_rfl⟩
instance:oz aR 51 0 0:=⟨by kernel_rfl⟩
instance:oz aR 51 1 2:=⟨by kernel_rfl⟩
instance:oz aR 51 2 3:=⟨by kernel_rfl⟩
instance:oz aR 51 3 4:=⟨by kernel_rfl⟩
instance:HW aR 48 51:=⟨ya⟩
instance:HW aR 49 128:=⟨Jy⟩
instance:ua aR 162 false 1:=⟨N2⟩
instance:ua aR 164 true 4:=⟨by kernel_rfl⟩
instance:oz aR 164 0 0:=⟨by kernel_rfl⟩
instance:oz aR 164 1 3:=⟨by kernel_rfl⟩
instance:ua aR 22 false 1:=⟨by kernel_rfl⟩
instance:ua aR 23 false 1:=⟨by kernel_rfl⟩
instance:ua aR 25 true 3:=⟨f9⟩
instance:ua aR 3 false 1:=⟨EY⟩
instance:ua aR 30 true 2:=⟨dB⟩
instance:ua aR 31 false 1:=⟨HN⟩
instance:ua aR 33 true 8:=⟨j6⟩
instance:ua aR 4 false 1:=⟨OP⟩
instance:ua aR 9 false 1:=⟨MV⟩
instance:ua aR 91 true 4:=⟨Di⟩
instance:oz aR 25 0 0:=⟨by kernel_rfl⟩
instance:oz aR 25 1 1:=⟨by kernel_rfl⟩
instance:oz aR 25 2 2:=⟨by kernel_rfl⟩
instance:oz aR 30 0 0:=⟨by kernel_rfl⟩
instance:oz aR 30 1 1:=⟨by kernel_rfl⟩
instance:oz aR 33 0 0:=⟨by kernel_rfl⟩
instance:oz aR 33 1 2:=⟨by kernel_rfl⟩
instance:oz aR 33 2 3:=⟨by kernel_rfl⟩
instance:oz aR 33 3 4:=⟨by kernel_rfl⟩
instance:oz aR 33 4 5:=⟨by kernel_rfl⟩
instance:oz aR 33 5 6:=⟨by kernel_rfl⟩
instance:oz aR 33 6 7:=⟨by kernel_rfl⟩
instance:oz aR 91 0 0:=⟨by kernel_rfl⟩
instance:oz aR 91 1 2:=⟨by kernel_rfl⟩
instance:oz aR 91 2 3:=⟨by kernel_rfl⟩
instance:HW aR 22 91:=⟨Dh⟩
instance:HW aR 23 33:=⟨mV⟩
instance:HW aR 26 3:=⟨Jx⟩
instance:HW aR 31 30:=⟨j7⟩
instance:ua aR 147 true 4:=⟨Iy⟩
instance:ua aR 148 false 1:=⟨by kernel_rfl⟩
instance:ua aR 150 true 4:=⟨nN⟩
instance:ua aR 153 true 3:=⟨DX⟩
instance:ua aR 26 false 1:=⟨by kernel_rfl⟩
instance:oz aR 147 0 0:=⟨by kernel_rfl⟩
instance:oz aR 147 1 1:=⟨by kernel_rfl⟩
instance:oz aR 147 2 2:=⟨by kernel_rfl⟩
instance:oz aR 147 3 3:=⟨by kernel_rfl⟩
instance:oz aR 150 0 0:=⟨by kernel_rfl⟩
instance:oz aR 150 1 1:=⟨by kernel_rfl⟩
instance:oz aR 150 2 2:=⟨by kernel_rfl⟩
instance:oz aR 150 3 3:=⟨by kernel_rfl⟩
instance:oz aR 84 0 0:=⟨by kernel_rfl⟩
instance:oz aR 84 1 1:=⟨by kernel_rfl⟩
instance:HW aR 148 147:=⟨Is⟩
instance:HW aR 34 150:=⟨uF⟩
instance:HW aR 42 9:=⟨Lq⟩
instance:oz aR 153 0 0:=⟨by kernel_rfl⟩
instance:oz aR 153 1 2:=⟨by kernel_rfl⟩
instance:HW aR 64 153:=⟨Jz⟩
instance:ua aR 137 false 1:=⟨N1⟩
instance:ua aR 139 true 7:=⟨uL⟩
instance:ua aR 202 true 6:=⟨wF⟩
instance:ua aR 34 false 1:=⟨by kernel_rfl⟩
instance:ua aR 42 false 1:=⟨HO⟩
instance:oz aR 139 0 0:=⟨by kernel_rfl⟩
instance:oz aR 139 1 1:=⟨by kernel_rfl⟩
instance:oz aR 139 2 4:=⟨by kernel_rfl⟩
instance:oz aR 139 3 5:=⟨by kernel_rfl⟩
instance:oz aR 139 4 6:=⟨by kernel_rfl⟩
instance:oz aR 202 3 4:=⟨Ez⟩
instance:oz aR 202 4 5:=⟨EA⟩
instance:HW aR 137 202:=⟨wE⟩
instance:ua aR 220 false 1:=⟨by kernel_rfl⟩
instance:ua aR 225 true 4:=⟨by kernel_rfl⟩
instance:oz aR 202 0 0:=⟨by kernel_rfl⟩
instance:oz aR 202 1 2:=⟨by kernel_rfl⟩
instance:oz aR 202 2 3:=⟨by kernel_rfl⟩
instance:oz aR 223 0 0:=⟨by kernel_rfl⟩
instance:oz aR 223 1 1:=⟨by kernel_rfl⟩
instance:oz aR 223 2 4:=⟨by kernel_rfl⟩
instance:oz aR 225 0 0:=⟨by kernel_rfl⟩
instance:oz aR 225 1 1:=⟨by kernel_rfl⟩
instance:oz aR 225 2 2:=⟨by kernel_rfl⟩
instance:HW aR 253 257:=⟨Lp⟩
instance:ua aR 257 true 4:=⟨Gt⟩
instance:oz aR 257 0 0:=⟨by kernel_rfl⟩
instance:oz aR 257 1 2:=⟨by kernel_rfl⟩
instance:ua aR 166 false 1:=⟨by kernel_rfl⟩
instance:ua aR 173 false 1:=⟨N3⟩
instance:ua aR 43 false 1:=⟨Rg⟩
instance:oz aR 180 0 0:=⟨by kernel_rfl⟩
instance:oz aR 180 1 1:=⟨by kernel_rfl⟩
instance:oz aR 180 2 4:=⟨by kernel_rfl⟩
instance:oz aR 180 3 5:=⟨by kernel_rfl⟩
instance:oz aR 180 4 6:=⟨by kernel_rfl⟩
instance:Nb aR 3 (.int .i64):=⟨Tryz.underlying3⟩
instance:Nb aR 5 (.int .u8):=⟨Tryz.underlying5⟩
instance:Nb aR 9 .string:=⟨Tryz.underlying9⟩
instance:Nb aR 103 (.int .u64):=⟨Tryz.underlying103⟩
instance:Nb aR 187 (.int .u64):=⟨Tryz.underlying187⟩
abbrev pt (b o:Nat):Value:=.pointer (some ⟨b,o,none⟩)
abbrev om (b:Nat) (e:Array MapEntry) (c:Nat):cT:=.obj b (.map e c)
abbrev TW (T:Nat->Prop) (w:World):Prop:=∀ k,T k->k<w.heap.size
abbrev oU (x:aT):bI:=[.int .i64 x.k1,.int .u64 x.v1]
abbrev Pq (x:cz):bI:=[.int .i64 x.d.v,.string x.d.x,.int .i64 x.d1.k1,.int .u64 x.d1.v1]
abbrev bq (x:aq) (v0:Value):bI:=[.int .i64 x.d.v,.string x.d.x,v0,.string x.u,.int .i64 x.j]
abbrev aX (x:ae):bI:=[.int .i64 x.v,.string x.x]
abbrev bh (x:au) (v0:Value):bI:=[.int .i64 x.d.v,.string x.d.x,.string x.u,v0,.int .i64 x.a,.int .i64 x.t,.int .i64 x.j,.bool x.w]
abbrev tK (x:a7):bI:=[.int .i64 x.d.v,.string x.d.x,.string x.u,.int .i64 x.a]
abbrev aU (x:ah) (v0 v1:Value):bI:=[.int .i64 x.r,v0,v1]
abbrev bo (x:bj) (v0:Value):bI:=[v0,.int .i64 x.r1]
abbrev oT (x:bU):bI:=[.int .i64 x.d.v,.string x.d.x,.string x.u]
abbrev JV (x:dd):bI:=[.bool x.b1,.bool x.u1,.int .i64 x.N,.int .i64 x.t1]
abbrev vY (x:aN) (v0:Value):bI:=[.bool x.f,v0,.int .i64 x.n,.int .i64 x.C]
abbrev m7 (x:bp) (v0 v1:Value):bI:=[.int .i64 x.d.v,.string x.d.x,.bool x.m,.int .i64 x.r1,v0,v1]
abbrev xi (x:dX) (v0 v1 v2 v3 v4 v5:Value):bI:=[v0,.int .i64 x.b.r,v1,v2,v3,v4,v5]
abbrev G7 (x:de):bI:=[.int .i64 x.i1.v,.string x.i1.x,.int .i64 x.p.v,.string x.p.x]
abbrev Ng (x:t8):bI:=[.bool x.c1,.string x.u,.int .i64 x.x1.v,.string x.x1.x]
abbrev LL:=List (ae×(List ae))
abbrev LB:=List (ae×ByteArray)
abbrev LO:=List (ae×Bool)
abbrev LR:=List au
abbrev LI:=List a7
abbrev LK:=List ae
abbrev LU:=List aN
abbrev LV:=bI
abbrev AM:=Array MapEntry
abbrev LN:=List Int
abbrev LY:=List ByteArray
abbrev LF:=List bp
abbrev LC:=List bU
abbrev bv (v:Value) (c:bI):cT:=.own v 51 ar.size c
abbrev yT (v:Value) (c:bI):cT:=.own v 147 dG.size c
abbrev gn (v:Value) (c:bI):cT:=.own v 153 br.size c
abbrev nV (v:Value) (c:bI):cT:=.own v 257 ga.size c
abbrev dP (v:Value) (c:bI):cT:=.own v 202 aB.size c
abbrev be (v:Value) (c:bI):cT:=.own v 91 ac.size c
abbrev aA (v:Value) (c:bI):cT:=.own v 30 ad.size c
abbrev xT (v:Value) (c:bI):cT:=.own v 128 bQ.size c
abbrev aJ (v:Value) (c:bI):cT:=.own v 33 aa.size c
abbrev cr (v:Value) (c:bI):cT:=.own v 150 an.size c
abbrev pg (e:Array MapEntry) (x:List (ae×ByteArray)):cq:=gw ad true a6.str false e x
abbrev sW (e:Array MapEntry) (x:List (ae×(List ae))):cq:=gw ad true (a6.slice ad) false e x
abbrev uw (e:Array MapEntry) (x:List (ae×Bool)):cq:=gw ad true a6.bool false e x
abbrev xS (b:Nat) (v:Value) (r:Int) (v1 v2:Value) (m k:Nat):cT:=.box b [v,.int .i64 r,v1,v2,.map (some m),.map (some k)] 223
abbrev xE (b d:Nat) (r:Int) (v1 v2:Value) (m:Nat) (v3:Value) (e:Int):cT:=.box b [.pointer (some ⟨d,0,none⟩),.int .i64 r,v1,v2,.map (some m),v3,.int .i64 e] 180
end
section
set_option maxRecDepth 100000
set_option maxHeartbeats 4000000
variable (T:Nat->Prop) (L:World) (hT:TW T L)
include hT
noncomputable section
def pm:=some (true)
def iU (e f:LK) (b:Int):Option (Fl (Int) (Fl (Unit) Bool)):=cond (decide (b<(e.length:Int))) ((bu e b).bind fun c=>(bu f b).bind fun d=>cond (!(d.v==c.v&&d.x.toList==c.x.toList)) (some (.out (.out false))) (some (.go (IntKind.i64.wrap (b+1))))) (some (.out (.go ())))
def jR (b c:LK):=cond ((b.length:Int) != (c.length:Int)) (some (false)) ((loop (fun s:Int=>iU b c s) 0).bind fun r=>Fl.el r (fun s=>pm) (fun y=>some (y)))
theorem uy (c d:LK) (i j:Value) (t:aF ad T L i c) (u:aF ad T L j d) (y:Bool) (B:jR c d=some y):bg aR No 35 [i,j] L (fun v w'=>v = .bool y):=by
 refine en Tryz.func35 Tryz.ntmps35 hT fun a I=>?_;replace I:=(I.fS (aF.dn t)).fS (aF.dn u);unfold jR at B;refine am I fun a I=>?_;refine aC ?_;refine am I fun a I=>?_;rcases cd B with⟨l,B⟩|⟨l,B⟩
 ·exact fz
 refine am I fun a I=>?_;refine aM (J:=fun a w=>St L No T 26 [] [] [] a w/\pm=some y) ?_ ?_
 ·refine am I fun a I=>?_;obtain⟨K,r,hMo1⟩:=bd B;refine bF _ (fun s a w=>∃ (b:Int),b=s/\St L No T 26 [(1,j),(12,i),(13,aj (c.length:Int)),(14,aj b)] [] [aL ad j d,aL ad i c] a w) r ⟨_,rfl,I.mt [] [0,1]⟩ ?_;rintro s a w F ⟨b,rfl,I⟩ B hf1;have B:iU c d b=some F:=B;unfold iU at B;refine am I fun a I=>?_;refine aC ?_;rcases cd B with⟨m,B⟩|⟨m,B⟩
  ·refine am I fun a I=>?_;refine aC ?_;refine am I fun a I=>?_;obtain⟨e,g,B⟩:=bd B;refine wl rfl (bn (R:=ad) I j7 dB rfl rfl 1 rfl g rfl fun z H D n a I=>?_);obtain rfl:=n;refine kA I fH fun A G a w O I=>?_;refine go I fun a w I=>?_;refine aC ?_;refine dr [] I fun w hQ I=>?_;refine gE [0,1] I fun a I=>?_;obtain⟨f,h,B⟩:=bd B;obtain⟨k,q,E,o,p,I⟩:=lq (R:=ad) I j7 dB 1 rfl h;obtain rfl:=o;refine dq 2 I (v:=pt k q) (p rfl rfl) fun a I=>?_;refine gE [3,4] I fun a I=>?_;refine dq 5 I (v:=.bool (!(f.v==e.v&&f.x.toList==e.x.toList))) (BD I rfl rfl) fun a I=>?_;refine eD ?_;exact fz
  exact fz
 rintro a w ⟨I,B⟩;unfold pm at B;exact fz
def dj (b:Bool):=some (b)
def jn (b c:au):=cond (b.d.v==c.d.v&&b.d.x.toList==c.d.x.toList) (cond (b.u.toList==c.u.toList) ((jR b.k c.k).bind fun e=>cond e (cond (b.a==c.a) (cond (b.t==c.t) (cond (b.j==c.j) (dj (b.w==c.w)) (dj false)) (dj false)) (dj false)) (dj false)) (dj false)) (dj false)
theorem vP (b c:au) (p q:Value) (n:aF ad T L p b.k) (o:aF ad T L q c.k) (y:Bool) (B:jn b c=some y):bg aR No 41 [.agg (bh b p).toArray,.agg (bh c q).toArray] L (fun v w'=>v = .bool y):=by
 refine en Tryz.func41 Tryz.ntmps41 hT fun a I=>?_;replace I:=(I.fS (aF.dn n)).fS (aF.dn o);unfold jn at B;refine kB I fun r t a w O I=>?_;refine kb I fun s u a w O I=>?_;refine am I fun a I=>?_;refine aM (J:=fun a w=>∃ (e:Bool),St L No T 52 [(4,.bool e)] [] [] a w/\dj e=some y) ?_ ?_
 ·refine am I fun a I=>?_;refine wl rfl (ky (v:=.bool (b.d.v==c.d.v&&b.d.x.toList==c.d.x.toList)) I (CZ I rfl rfl) rfl rfl fun a I=>?_);refine am I fun a I=>?_;rcases cd B with⟨i,B⟩|⟨i,B⟩
  ·refine am I fun a I=>?_;rcases cd B with⟨f,B⟩|⟨f,B⟩
   ·refine am I fun a I=>?_;obtain⟨z,h,B⟩:=bd B;refine wg I rfl rfl rfl f (bB I QF rfl rfl (uy _ _ I.dlt b.k c.k _ _ I.g1 I.g0 _ h) fun _ w C a O U=>?_);obtain rfl:=C;have I:=eL U;refine am I fun a I=>?_;rcases cd B with⟨j,B⟩|⟨j,B⟩
    ·refine am I fun a I=>?_;rcases cd B with⟨l,B⟩|⟨l,B⟩
     ·refine am I fun a I=>?_;rcases cd B with⟨m,B⟩|⟨m,B⟩
      ·refine am I fun a I=>?_;rcases cd B with⟨g,B⟩|⟨g,B⟩
       ·refine am I fun a I=>?_;refine qg I g (OT I rfl rfl Tryz.underlying4 (.inl ⟨rfl,rfl⟩)) fun a I=>?_;exact fz
       exact fz
      exact fz
     exact fz
    exact fz
   exact fz
  exact fz
 rintro a w ⟨e,I,B⟩;unfold dj at B;exact fz
def km (b:Int):=cond (decide (b<0)) (some ((ae.mk 0 cp))) (cond (decide ((99:Int)<b)) (some ((ae.mk 0 cp))) ((yJ b).bind fun c=>some ((ae.mk 30 c))))
theorem rT (hLv:dh T L) (b:Int) (y:ae) (B:km b=some y):bg aR No 91 [aj b] L (fun v w'=>v = .agg (aX y).toArray):=by
 refine en Tryz.func91 Tryz.ntmps91 hT fun a I=>?_;replace I:=I.fact bH (dh.dn hLv);unfold km at B;refine kA I fH fun g h a w O I=>?_;refine am I fun a I=>?_;refine aC ?_;refine io ?_;refine am I fun a I=>?_;rcases cd B with⟨e,B⟩|⟨e,B⟩
 ·refine am I fun a I=>?_;refine qy I (bw (ps:=[]) I BU fH rfl (us:=[]) trivial (ws:=[aj 0,a8 cp]) rfl) fun a I=>?_;refine go I fun a w I=>?_;cases B
  refine aG I rfl (rC 0 I) ?_;exact rfl
 refine am I fun a I=>?_;rcases cd B with⟨f,B⟩|⟨f,B⟩
 ·refine am I fun a I=>?_;refine qy I (bw (ps:=[]) I BU fH rfl (us:=[]) trivial (ws:=[aj 0,a8 cp]) rfl) fun a I=>?_;refine go I fun a w I=>?_;cases B
  refine aG I rfl (rC 0 I) ?_;exact rfl
 refine am I fun a I=>?_;obtain⟨c,d,B⟩:=bd B;refine kE I Fq (yK _ _ I.dlt I.g0 b _ d) fun w a I=>?_;refine qy I (bw (ps:=[(0,.const (aj 30)),(1,.tmp 11)]) I BU fH rfl (us:=[[aj 30],[a8 c]]) ⟨rfl,⟨rfl,trivial⟩⟩ (ws:=[aj 30,a8 c]) rfl) fun a I=>?_;refine go I fun a w I=>?_;cases B
 refine aG I rfl (rC 0 I) ?_;exact rfl
def wW (b:LN):=some ((bj.mk b 0))
theorem AE (d:LN) (b:Value) (g:aF (a6.int .i64) T L b d) (y:bj) (B:wW d=some y):bg aR No 12 [b] L (fun v w'=>∃ (c:Nat) (f:Value),v=pt c 0/\L.heap.size<=c/\w'.heap[c]? = some (.cells (bo y f).toArray 84 (0,0))/\aF (a6.int .i64) (dT T [.box c (bo y f) 84]) w' f y.L):=by
 refine en Tryz.func12 Tryz.ntmps12 hT fun a I=>?_;replace I:=I.fS (aF.dn g);unfold wW at B;refine am I fun a I=>?_;refine qy I (bw (ps:=[(0,.tmp 3)]) I R1 R8 rfl (us:=[[b]]) ⟨(m8 (aF.one (I.g0:aF (a6.int .i64) _ _ _ _))),trivial⟩ (ws:=[b,aj 0]) rfl) fun a I=>?_;refine kb I fun e h a w O I=>?_;refine am I fun a I=>?_;cases B
 refine aG I rfl (aw I rfl aI) ?_;exact⟨e,b,rfl,I.boxNew 0 rfl,I.zb 0 rfl,(aF.up ⟨.inr (aO (i:=0) rfl),trivial⟩ I.g0)⟩
def sU (c b:Int):=cond (decide (b<1)) (some (0)) (gd (b != 0) <| gd (b != 0) <| some (Int.tmod (IntKind.i64.wrap ((Int.tmod c b)+b)) b))
theorem BT (c b y:Int) (B:sU c b=some y):bg aR No 26 [aj c,aj b] L (fun v w'=>v=aj y):=by
 refine en Tryz.func26 Tryz.ntmps26 hT fun a I=>?_;unfold sU at B;refine am I fun a I=>?_;refine aC ?_;refine am I fun a I=>?_;rcases cd B with⟨d,B⟩|⟨d,B⟩
 ·exact fz
 refine am I fun a I=>?_;obtain⟨e,B⟩:=aW B;refine qy I (D2 I rfl rfl (bne_iff_ne.1 e)) fun a I=>?_;refine am I fun a I=>?_;obtain⟨f,B⟩:=aW B;refine qy I (D2 I rfl rfl (bne_iff_ne.1 f)) fun a I=>?_;exact fz
def cj (b:bj) (e:Int):=cond (decide ((b.L.length:Int)<=b.r1)) (some ((0,b))) ((bu b.L (IntKind.i64.wrap ((IntKind.i64.wrap (b.r1+1))-1))).bind fun c=>(sU c e).bind fun d=>some ((d,(bj.mk b.L (IntKind.i64.wrap (b.r1+1))))))
theorem bL (d:bj) (f:Int) (e:Value) (b:Nat) (s:L.heap[b]? = some (.cells (bo d e).toArray 84 (0,0))) (q:¬ T b) (t:aF (a6.int .i64) (dT T [.box b (bo d e) 84]) L e d.L) (y:Int×bj) (B:cj d f=some y):bg aR (fun k=>k=b) 73 [pt b 0,aj f] L (fun v w'=>∃ (j:Value),v=aj y.1/\w'.heap[b]? = some (.cells (bo y.2 j).toArray 84 (0,0))/\aF (a6.int .i64) (dT T [.box b (bo y.2 j) 84]) w' j y.2.L/\e=j):=by
 refine tO (c:=_) Tryz.func73 rfl T 35 Tryz.ntmps73 hT rfl s q fun a I=>?_;replace I:=I.fS t;unfold cj at B;refine am I fun a I=>?_;refine aC ?_;refine aC ?_;refine dr [] I fun w hQ I=>?_;refine gE [0,1,2,3,4,5,6,7,8,9] I fun a I=>?_;refine eD ?_;refine am I fun a I=>?_;rcases cd B with⟨n,B⟩|⟨n,B⟩
 ·refine am I fun a I=>?_;cases B
  refine aG I rfl (aw I rfl aI) ?_;exact⟨e,rfl,I.zb 0 rfl,(aF.up ⟨.inr (aO (i:=0) rfl),trivial⟩ I.g0),rfl⟩
 refine go I fun a w I=>?_;refine aC ?_;refine dr [] I fun w hQ I=>?_;refine gE [0,1,2,3,4,5,6,7,8] I fun a I=>?_;obtain⟨m,g,B⟩:=bd B;obtain⟨l,r,u,o,p,I⟩:=lq (R:=(a6.int .i64)) I Jx EY 0 rfl g;obtain rfl:=o;refine dq 9 I (v:=pt l r) (p rfl rfl) fun a I=>?_;refine gE [10,11] I fun a I=>?_;obtain⟨x,h,B⟩:=bd B;refine ec 12 I QD (BT _ _ I.dlt m f _ h) fun _ w C a O U=>?_;obtain rfl:=C;have I:=eL U;refine gE [13] I fun a I=>?_;refine eD ?_;refine am I fun a I=>?_;cases B
 refine aG I rfl (aw I rfl aI) ?_;exact⟨e,rfl,I.zb 0 rfl,(aF.up ⟨.inr (aO (i:=0) rfl),trivial⟩ I.g1),rfl⟩
def uj (e:bj) (c:LY):=(cj e (c.length:Int)).bind fun b=>(bu c b.1).bind fun d=>some ((d,(bj.mk b.2.L b.2.r1)))
theorem FA (b:bj) (h:LY) (f t:Value) (d:Nat) (q:L.heap[d]? = some (.cells (bo b f).toArray 84 (0,0))) (o:¬ T d) (r:aF (a6.int .i64) (dT T [.box d (bo b f) 84]) L f b.L) (s:aF a6.str (dT T [.box d (bo b f) 84]) L t h) (y:ByteArray×bj) (B:uj b h=some y):bg aR (fun k=>k=d) 153 [pt d 0,t] L (fun v w'=>∃ (m:Value),v=a8 y.1/\w'.heap[d]? = some (.cells (bo y.2 m).toArray 84 (0,0))/\aF (a6.int .i64) (dT T [.box d (bo y.2 m) 84]) w' m y.2.L/\f=m):=by
 refine tO (c:=_) Tryz.func153 rfl T 12 Tryz.ntmps153 hT rfl q o fun a I=>?_;replace I:=(I.fS r).fS s;unfold uj at B;refine am I fun a I=>?_;obtain⟨p,l,B⟩:=bd B;refine wl rfl (cN I oh rfl rfl 0 rfl (bL _ _ (I.drop 0).dlt b (h.length:Int) _ _ (I.zb 0 rfl) (I.zi 0 rfl) (aF.lent (i:=0) rfl I.g1) _ l) fun _ w C O=>?_);obtain⟨D,he,hrow,g,e⟩:=C;obtain rfl:=he.symm;subst e;refine⟨(bo p.2 f),hrow,fun a I=>?_⟩;replace I:=I.fS (aF.back (i:=0) rfl g);obtain⟨z,j,B⟩:=bd B;refine wl rfl (bn (R:=a6.str) I Lq MV rfl rfl 1 rfl j rfl fun u A x n a I=>?_);obtain rfl:=n;refine am I fun a I=>?_;cases B
 refine aG I rfl (aw I rfl aI) ?_;exact⟨f,rfl,I.zb 0 rfl,(aF.up ⟨.inr (aO (i:=0) rfl),trivial⟩ I.g1),rfl⟩
def qW (e:bj):=(cj e 4).bind fun b=>(km b.1).bind fun d=>(uj (bj.mk b.2.L b.2.r1) ([(ByteArray.mk #[48]),(ByteArray.mk #[49]),(ByteArray.mk #[50]),(ByteArray.mk #[51]),(ByteArray.mk #[55]),(ByteArray.mk #[49,48,48]),cp,(ByteArray.mk #[120]),(ByteArray.mk #[49,54]),(ByteArray.mk #[49])])).bind fun c=>some (((bU.mk d c.1),(bj.mk c.2.L c.2.r1)))
theorem C2 (b:bj) (f:Value) (e:Nat) (t:L.heap[e]? = some (.cells (bo b f).toArray 84 (0,0))) (s:¬ T e) (u:aF (a6.int .i64) (dT T [.box e (bo b f) 84]) L f b.L) (hLv:dh (dT T [.box e (bo b f) 84]) L) (y:bU×bj) (B:qW b=some y):bg aR (fun k=>k=e) 100 [pt e 0] L (fun v w'=>∃ (r:Value),v = .agg (oT y.1).toArray/\w'.heap[e]? = some (.cells (bo y.2 r).toArray 84 (0,0))/\aF (a6.int .i64) (dT T [.box e (bo y.2 r) 84]) w' r y.2.L/\f=r):=by
 refine tO (c:=_) Tryz.func100 rfl T 10 Tryz.ntmps100 hT rfl t s fun a I=>?_;replace I:=(I.fact bH hLv).fS u;unfold qW at B;refine kA I zC fun z D a w O I=>?_;refine am I fun a I=>?_;obtain⟨d,o,B⟩:=bd B;refine wl rfl (cN I oh rfl rfl 1 rfl (bL _ _ (I.drop 1).dlt b 4 _ _ (I.zb 1 rfl) (I.zi 1 rfl) (aF.lent (i:=1) rfl I.g0) _ o) fun _ w C O=>?_);obtain⟨E,he,hrow,m,g⟩:=C;obtain rfl:=he.symm;subst g;refine⟨(bo d.2 f),hrow,fun a I=>?_⟩;replace I:=I.fS (aF.back (i:=1) rfl m);obtain⟨j,p,B⟩:=bd B;refine kF I Ml (rT _ _ I.dlt I.g2 d.1 _ p) fun w a I=>?_;refine wl rfl (bf (ps:=[(0,.const (.string ⟨#[48]⟩)),(1,.const (.string ⟨#[49]⟩)),(2,.const (.string ⟨#[50]⟩)),(3,.const (.string ⟨#[51]⟩)),(4,.const (.string ⟨#[55]⟩)),(5,.const (.string ⟨#[49,48,48]⟩)),(6,.const (.string ⟨#[]⟩)),(7,.const (.string ⟨#[120]⟩)),(8,.const (.string ⟨#[49,54]⟩)),(9,.const (.string ⟨#[49]⟩))]) I zK O2 (zl:=[a8 cp,a8 cp,a8 cp,a8 cp,a8 cp,a8 cp,a8 cp,a8 cp,a8 cp,a8 cp]) (by kernel_rfl) rfl (us:=[[a8 (ByteArray.mk #[48])],[a8 (ByteArray.mk #[49])],[a8 (ByteArray.mk #[50])],[a8 (ByteArray.mk #[51])],[a8 (ByteArray.mk #[55])],[a8 (ByteArray.mk #[49,48,48])],[a8 cp],[a8 (ByteArray.mk #[120])],[a8 (ByteArray.mk #[49,54])],[a8 (ByteArray.mk #[49])]]) ⟨rfl,⟨rfl,⟨rfl,⟨rfl,⟨rfl,⟨rfl,⟨rfl,⟨rfl,⟨rfl,⟨rfl,trivial⟩⟩⟩⟩⟩⟩⟩⟩⟩⟩ (ws:=[a8 (ByteArray.mk #[48]),a8 (ByteArray.mk #[49]),a8 (ByteArray.mk #[50]),a8 (ByteArray.mk #[51]),a8 (ByteArray.mk #[55]),a8 (ByteArray.mk #[49,48,48]),a8 cp,a8 (ByteArray.mk #[120]),a8 (ByteArray.mk #[49,54]),a8 (ByteArray.mk #[49])]) rfl rfl rfl rfl fun A a w O I=>?_);replace I:=(I.lit (R:=a6.str) (us:=[a8 (ByteArray.mk #[48]),a8 (ByteArray.mk #[49]),a8 (ByteArray.mk #[50]),a8 (ByteArray.mk #[51]),a8 (ByteArray.mk #[55]),a8 (ByteArray.mk #[49,48,48]),a8 cp,a8 (ByteArray.mk #[120]),a8 (ByteArray.mk #[49,54]),a8 (ByteArray.mk #[49])]) (xs:=[(ByteArray.mk #[48]),(ByteArray.mk #[49]),(ByteArray.mk #[50]),(ByteArray.mk #[51]),(ByteArray.mk #[55]),(ByteArray.mk #[49,48,48]),cp,(ByteArray.mk #[120]),(ByteArray.mk #[49,54]),(ByteArray.mk #[49])]) 0 rfl (by decide) ((aP (R:=a6.str) (x:=(ByteArray.mk #[48])) rfl).append ((aP (R:=a6.str) (x:=(ByteArray.mk #[49])) rfl).append ((aP (R:=a6.str) (x:=(ByteArray.mk #[50])) rfl).append ((aP (R:=a6.str) (x:=(ByteArray.mk #[51])) rfl).append ((aP (R:=a6.str) (x:=(ByteArray.mk #[55])) rfl).append ((aP (R:=a6.str) (x:=(ByteArray.mk #[49,48,48])) rfl).append ((aP (R:=a6.str) (x:=cp) rfl).append ((aP (R:=a6.str) (x:=(ByteArray.mk #[120])) rfl).append ((aP (R:=a6.str) (x:=(ByteArray.mk #[49,54])) rfl).append (aP (R:=a6.str) (x:=(ByteArray.mk #[49])) rfl)))))))))) rfl rfl).zf (R:=a6.str) 0 rfl 0 rfl;obtain⟨l,q,B⟩:=bd B;refine wl rfl (cN I PR rfl rfl 1 rfl (FA _ _ (I.drop 1).dlt (bj.mk d.2.L d.2.r1) ([(ByteArray.mk #[48]),(ByteArray.mk #[49]),(ByteArray.mk #[50]),(ByteArray.mk #[51]),(ByteArray.mk #[55]),(ByteArray.mk #[49,48,48]),cp,(ByteArray.mk #[120]),(ByteArray.mk #[49,54]),(ByteArray.mk #[49])]) _ _ _ (I.zb 1 rfl) (I.zi 1 rfl) (aF.lent (i:=1) rfl I.g2) (aF.lent (i:=1) rfl I.g0) _ q) fun _ w C O=>?_);obtain⟨F,he,hrow,n,h⟩:=C;obtain rfl:=he.symm;subst h;refine⟨(bo l.2 f),hrow,fun a I=>?_⟩;replace I:=I.fS (aF.back (i:=1) rfl n);refine qy I (bw (ps:=[(0,.tmp 5),(1,.tmp 8)]) I NX zC rfl (us:=[(aX j),[a8 l.1]]) ⟨rfl,⟨rfl,trivial⟩⟩ (ws:=[aj j.v,a8 j.x,a8 l.1]) rfl) fun a I=>?_;refine go I fun a w I=>?_;cases B
 refine aG I rfl (rC 0 I) ?_;exact⟨f,rfl,I.zb 1 rfl,(aF.up ⟨.inr (aO (i:=1) rfl),trivial⟩ I.g0),rfl⟩
def nS (d:LC) (b:LN) (c:Int):=some ((d,(bj.mk b c)))
def nT (c:LC) (g:Int) (e:LN) (f:Int):Option (Fl (LC×Int×LN×Int) (LC×LN×Int)):=cond (decide ((0:Int)<g)) ((qW (bj.mk e f)).bind fun b=>gd (bP (c.length+([(bU.mk (ae.mk b.1.d.v b.1.d.x) b.1.u)]).length)) <| some (.go ((c++([(bU.mk (ae.mk b.1.d.v b.1.d.x) b.1.u)])),IntKind.i64.wrap (g-1),b.2.L,b.2.r1))) (some (.out (c,e,f)))
def iR (d:bj) (c:Int):=(cj d (IntKind.i64.wrap (c+1))).bind fun b=>(loop (fun s:LC×Int×LN×Int=>nT s.1 s.2.1 s.2.2.1 s.2.2.2) (([]:List bU),b.1,b.2.L,b.2.r1)).bind fun r=>nS r.1 r.2.1 r.2.2
theorem pa (l:bj) (o:Int) (j:Value) (e:Nat) (W:L.heap[e]? = some (.cells (bo l j).toArray 84 (0,0))) (S:¬ T e) (Y:aF (a6.int .i64) (dT T [.box e (bo l j) 84]) L j l.L) (hLv:dh (dT T [.box e (bo l j) 84]) L) (y:LC×bj) (B:iR l o=some y):bg aR (fun k=>k=e) 30 [pt e 0,aj o] L (fun v w'=>∃ (N:Value) (uZ:bI) (H:Value),v=N/\gG br T L w' [gn N uZ,.box e (bo y.2 H) 84] 153 N uZ y.1/\w'.heap[e]? = some (.cells (bo y.2 H).toArray 84 (0,0))/\aF (a6.int .i64) (dT T [gn N uZ,.box e (bo y.2 H) 84]) w' H y.2.L/\j=H):=by
 refine tO (c:=_) Tryz.func30 rfl T 21 Tryz.ntmps30 hT rfl W S fun a I=>?_;replace I:=(I.fact bH hLv).fS Y;unfold iR at B;refine am I fun a I=>?_;refine aM (J:=fun a w=>∃ (D:LC) (z:LN) (A:Int) (p:Value) (m:LV),St L (fun k=>k=e) T 21 [(5,p)] [gn p m,.box e [j,aj A] 84] [ap br m D,aL (a6.int .i64) j z,bH] a w/\nS D z A=some y) ?_ ?_
 ·refine am I fun a I=>?_;obtain⟨V,M,B⟩:=bd B;refine wl rfl (cN I oh rfl rfl 0 rfl (bL _ _ (I.drop 0).dlt l (IntKind.i64.wrap (o+1)) _ _ (I.zb 0 rfl) (I.zi 0 rfl) (aF.lent (i:=0) rfl I.g0) _ M) fun _ w C O=>?_);obtain⟨a2,he,hrow,F,q⟩:=C;obtain rfl:=he.symm;subst q;refine⟨(bo V.2 j),hrow,fun a I=>?_⟩;replace I:=I.fS (aF.back (i:=0) rfl F);refine am I fun a I=>?_;replace I:=I.zn br 153 (by decide);obtain⟨r1,X,hMo1⟩:=bd B;refine bF _ (fun s a w=>∃ (h:LC) (n:Int) (f:LN) (g:Int) (E:Value) (t:LV),(h,n,f,g)=s/\St L (fun k=>k=e) T 21 [(0,pt e 0),(5,E),(6,aj n)] [gn E t,.box e [j,aj g] 84] [ap br t h,aL (a6.int .i64) j f,bH] a w) X ⟨_,_,_,_,_,_,rfl,I.mt [0,1] [0,1,3]⟩ ?_;rintro s a w f1 ⟨h,n,f,g,E,t,rfl,I⟩ B hf1;have B:nT h n f g=some f1:=B;unfold nT at B;refine aC ?_;refine am I fun a I=>?_;rcases cd B with⟨P,B⟩|⟨P,B⟩
  ·refine am I fun a I=>?_;refine aC ?_;refine am I fun a I=>?_;obtain⟨b,K,B⟩:=bd B;refine wl rfl (cN I Pr rfl rfl 1 rfl (C2 _ _ (I.drop 1).dlt (bj.mk f g) _ _ (I.zb 1 rfl) (I.zi 1 rfl) (aF.lent (i:=1) rfl I.g1) (bH.keep I.g2 (al _ _) (fun k O=>.inl ((mZ (i:=1) rfl k).1 O))) _ K) fun _ w C O=>?_);obtain⟨a3,he,hrow,G,r⟩:=C;obtain rfl:=he.symm;subst r;refine⟨(bo b.2 j),hrow,fun a I=>?_⟩;replace I:=I.fS (aF.back (i:=1) rfl G);refine wl rfl (bf (ps:=[(0,.tmp 17)]) I Om zC (zl:=[aj 0,a8 cp,a8 cp]) (by kernel_rfl) rfl (us:=[(oT b.1)]) ⟨rfl,trivial⟩ (ws:=(oT b.1)) rfl rfl rfl rfl fun Z a w O I=>?_);replace I:=(I.lit (R:=br) (us:=(oT b.1)) (xs:=[(bU.mk (ae.mk b.1.d.v b.1.d.x) b.1.u)]) 0 rfl (by decide) (aP (R:=br) (x:=(bU.mk (ae.mk b.1.d.v b.1.d.x) b.1.u)) rfl) rfl rfl).zf (R:=br) 0 rfl 0 rfl;obtain⟨Q,B⟩:=aW B;refine wl rfl (bG (R:=br) (xs:=h) (ys:=[(bU.mk (ae.mk b.1.d.v b.1.d.x) b.1.u)]) I Om (by decide) (by decide) rfl rfl 0 rfl 3 rfl 0 rfl Q rfl fun a4 a0 a w O I=>?_);refine am I fun a I=>?_;exact fin
  refine am I fun a I=>?_;cases B
  have hr:=hf1 _ rfl;subst hr;have B:nS h f g=some y:=hMo1;exact fin
 rintro a w ⟨D,z,A,p,m,I,B⟩;unfold nS at B;refine am I fun a I=>?_;cases B
 refine aG I rfl (aw I rfl aI) ?_;exact⟨p,m,j,rfl,I.zm ⟨.inr (aO (i:=0) rfl),⟨.inr (aO (i:=1) rfl),trivial⟩⟩ 0 rfl 0 rfl 1 rfl (by decide),I.zb 1 rfl,(aF.up ⟨.inr (aO (i:=0) rfl),⟨.inr (aO (i:=1) rfl),trivial⟩⟩ I.g1),rfl⟩
def lS (b c:Int):=some ((b,c))
def fv (c:LU) (g b:Int):Option (Fl (Int) (Int)):=(bu c g).bind fun d=>cond d.f (cond (decide (b<(c.length:Int))) ((bu c b).bind fun e=>cond e.f (some (.go (IntKind.i64.wrap (b+1)))) (some (.out b))) (some (.out b))) (some (.out b))
def lT (b:LU) (c d:Int):=(loop (fun s:Int=>fv b c s) (IntKind.i64.wrap (c+1))).bind fun r=>lS d r
def fw (c:LU) (g b:Int):Option (Fl (Int) (Int)):=(bu c g).bind fun d=>cond d.f (cond (decide ((0:Int)<b)) ((bu c (IntKind.i64.wrap (b-1))).bind fun e=>cond e.f (some (.go (IntKind.i64.wrap (b-1)))) (some (.out b))) (some (.out b))) (some (.out b))
def oG (b:LU) (c:Int):=cond (decide (c<0)) (some ((0,0))) (cond (decide ((b.length:Int)<=c)) (some ((0,0))) ((loop (fun s:Int=>fw b c s) c).bind fun r=>lT b c r))
theorem xp (b:LU) (c:Int) (g:Value) (K:aF an T L g b) (y:Int×Int) (B:oG b c=some y):bg aR No 121 [g,aj c] L (fun v w'=>v = .tuple #[aj y.1,aj y.2]):=by
 refine en Tryz.func121 Tryz.ntmps121 hT fun a I=>?_;replace I:=I.fS (aF.dn K);unfold oG at B;refine am I fun a I=>?_;refine aC ?_;refine io ?_;refine am I fun a I=>?_;rcases cd B with⟨x,B⟩|⟨x,B⟩
 ·refine am I fun a I=>?_;cases B
  refine aG I Tryz.results121 (aw I rfl (aw I rfl aI)) ?_;exact rfl
 refine am I fun a I=>?_;rcases cd B with⟨z,B⟩|⟨z,B⟩
 ·refine am I fun a I=>?_;cases B
  refine aG I Tryz.results121 (aw I rfl (aw I rfl aI)) ?_;exact rfl
 refine am I fun a I=>?_;refine aM (J:=fun a w=>∃ (d:Int),St L No T 60 [(0,g),(1,aj c),(6,aj d),(7,aj (IntKind.i64.wrap (c+1)))] [] [aL an g b] a w/\lT b c d=some y) ?_ ?_
 ·refine am I fun a I=>?_;obtain⟨r1,k,hMo1⟩:=bd B;refine bF _ (fun s a w=>∃ (e:Int),e=s/\St L No T 60 [(0,g),(1,aj c),(6,aj e),(7,aj (IntKind.i64.wrap (c+1)))] [] [aL an g b] a w) k ⟨_,rfl,I.mt [] [0]⟩ ?_;rintro s a w u ⟨e,rfl,I⟩ B hf1;have B:fw b c e=some u:=B;unfold fw at B;refine aC ?_;refine io ?_;refine am I fun a I=>?_;obtain⟨a0,n,B⟩:=bd B;refine wl rfl (bn (R:=an) I uF nN rfl rfl 0 rfl n rfl fun M a2 S A a I=>?_);obtain⟨ab,rfl,p⟩:=A;replace I:=I.fS p;refine am I fun a I=>?_;rcases cd B with⟨D,B⟩|⟨D,B⟩
  ·refine am I fun a I=>?_;rcases cd B with⟨i,B⟩|⟨i,B⟩
   ·refine am I fun a I=>?_;obtain⟨a1,o,B⟩:=bd B;refine wg I rfl rfl rfl i (bn (R:=an) I uF nN rfl rfl 2 rfl o rfl fun N a3 V E a I=>?_);obtain⟨af,rfl,q⟩:=E;replace I:=I.fS q;exact fz
   exact fz
  exact fz
 rintro a w ⟨d,I,B⟩;unfold lT at B;refine aM (J:=fun a w=>∃ (h:Int),St L No T 60 [(6,aj d),(7,aj h)] [] [] a w/\lS d h=some y) ?_ ?_
 ·refine am I fun a I=>?_;obtain⟨r1,k,hMo1⟩:=bd B;refine bF _ (fun s a w=>∃ (f:Int),f=s/\St L No T 60 [(0,g),(1,aj c),(6,aj d),(7,aj f)] [] [aL an g b] a w) k ⟨_,rfl,I.mt [] [0]⟩ ?_;rintro s a w u ⟨f,rfl,I⟩ B hf1;have B:fv b c f=some u:=B;unfold fv at B;refine aC ?_;refine io ?_;refine am I fun a I=>?_;obtain⟨Y,l,B⟩:=bd B;refine wl rfl (bn (R:=an) I uF nN rfl rfl 0 rfl l rfl fun P a4 W F a I=>?_);obtain⟨ag,rfl,r⟩:=F;replace I:=I.fS r;refine am I fun a I=>?_;rcases cd B with⟨G,B⟩|⟨G,B⟩
  ·refine am I fun a I=>?_;rcases cd B with⟨j,B⟩|⟨j,B⟩
   ·refine am I fun a I=>?_;obtain⟨Z,m,B⟩:=bd B;refine wg I rfl rfl rfl j (bn (R:=an) I uF nN rfl rfl 2 rfl m rfl fun Q a5 X H a I=>?_);obtain⟨ak,rfl,t⟩:=H;replace I:=I.fS t;exact fz
   exact fz
  exact fz
 rintro a w ⟨h,I,B⟩;unfold lS at B;refine am I fun a I=>?_;cases B
 refine aG I Tryz.results121 (aw I rfl (aw I rfl aI)) ?_;exact rfl
def nz (d:LU) (b:LN) (c:Int):=some ((d,(bj.mk b c)))
def qE (d:Int) (e:LU) (b:LN) (c:Int):Option (Fl (LU×Int×LN×Int) (LU×LN×Int)):=some (.go (e,IntKind.i64.wrap (d+1),b,c))
def nA (c:LU) (b:Int) (f:Bool) (g h:Int) (d:LN) (e:Int) (i:(List dd)):=(bu c b).bind fun j=>qE b (c.set (Int.toNat b) (aN.mk f i g h)) d e
def qF (d:Int) (b:LN) (c:Int) (e:(List dd)):Option (Fl (Int×LN×Int×(List dd)) (LN×Int×(List dd))):=some (.go (IntKind.i64.wrap (d-1),b,c,e))
def k7 (i:Int) (b:(List dd)) (c:Bool) (d:Int) (g:LN) (h:Int) (e:Bool) (f:Int):=gd (bP (b.length+([(dd.mk c e d f)]).length)) <| qF i g h (b++([(dd.mk c e d f)]))
def jk (e:Int) (f:(List dd)) (g:Bool) (j h:Int) (i:Bool) (c:LN) (d:Int):=cond i ((cj (bj.mk c d) j).bind fun b=>k7 e f g h b.2.L b.2.r1 true b.1) (k7 e f g h c d false 0)
def k8 (j:Bool) (e:Int) (b:(List dd)) (h:Bool) (f:Int) (c:LN) (d i:Int):=cond (!(j)) (cond (decide ((0:Int)<(b.length:Int))) ((cj (bj.mk c d) 3).bind fun g=>jk e b h f i (g.1==1) g.2.L g.2.r1) (jk e b h f i false c d)) (jk e b h f i false c d)
def k9 (g:Bool) (f:Int) (h:(List dd)) (i:Bool) (b:Int) (k:(Int×bj)) (j:Bool) (d:LN) (e:Int):=cond j ((cj (bj.mk d e) (min b 3)).bind fun c=>k8 g f h i b c.2.L c.2.r1 (IntKind.i64.wrap ((IntKind.i64.wrap (b-1))-c.1))) (k8 g f h i b d e k.1)
def lc (g:Bool) (f:Int) (h:(List dd)) (i:LN) (j:Int) (e:Bool) (c:Int):=(cj (bj.mk i j) c).bind fun b=>cond (!(e)) ((cj (bj.mk b.2.L b.2.r1) 2).bind fun d=>k9 g f h e c b (d.1==0) d.2.L d.2.r1) (k9 g f h e c b false b.2.L b.2.r1)
def jG (h:Int) (f:Bool) (e:Int) (g:(List dd)) (c:LN) (d:Int) (b:Bool):=cond b (lc f e g c d b 4) (lc f e g c d b h)
def jJ (c:Int) (h:Bool) (d:Int) (f:LN) (g:Int) (e:(List dd)):=cond (decide ((0:Int)<d)) ((cj (bj.mk f g) 3).bind fun b=>cond (b.1==0) (jG c h d e b.2.L b.2.r1 true) (jG c h d e b.2.L b.2.r1 (c==0))) (some (.out (f,g,e)))
def jH (h:LU) (g d:Int) (c:Bool) (e:LN) (f i j:Int):=(cj (bj.mk e f) 4).bind fun b=>(loop (fun s:Int×LN×Int×(List dd)=>jJ d c s.1 s.2.1 s.2.2.1 s.2.2.2) (b.1,b.2.L,b.2.r1,([]:List dd))).bind fun r=>nA h g c i j r.1 r.2.1 r.2.2
def pc (h:LU) (g d:Int) (e:LN) (f:Int) (b:Bool) (j k:Int):=cond b ((cj (bj.mk e f) 6).bind fun c=>(bu ([0,1,2,4,8,16]) c.1).bind fun i=>jH h g d b c.2.L c.2.r1 5 i) (jH h g d b e f j k)
def jI (e:LU) (d:Int) (h:LN) (i g:Int):=(bu e d).bind fun j=>(cj (bj.mk h i) 4).bind fun b=>(cj (bj.mk b.2.L b.2.r1) 6).bind fun c=>pc e d g c.2.L c.2.r1 j.f (IntKind.i64.wrap (1+b.1)) c.1
def jK (i c:LU) (b:Int) (d:LN) (e:Int):=cond (decide (b<(i.length:Int))) ((oG c b).bind fun g=>(bu c b).bind fun h=>cond (!(h.f)) (jI c b d e g.1) (jI c b d e g.2)) (some (.out (c,d,e)))
def lN (b:LU) (c:LN) (d:Int):=(loop (fun s:LU×Int×LN×Int=>jK b s.1 s.2.1 s.2.2.1 s.2.2.2) (b,0,c,d)).bind fun r=>nz r.1 r.2.1 r.2.2
def pd (c:LU) (f:Int) (d:LN) (e:Int):Option (Fl (LU×Int×LN×Int) (LU×LN×Int)):=cond (decide ((0:Int)<f)) ((cj (bj.mk d e) 3).bind fun b=>gd (bP (c.length+([(aN.mk (b.1==1) ([]) 0 0)]).length)) <| some (.go ((c++([(aN.mk (b.1==1) ([]) 0 0)])),IntKind.i64.wrap (f-1),b.2.L,b.2.r1))) (some (.out (c,d,e)))
def sV (c:bj):=(cj c 7).bind fun b=>(loop (fun s:LU×Int×LN×Int=>pd s.1 s.2.1 s.2.2.1 s.2.2.2) (([]:List aN),IntKind.i64.wrap (2+b.1),b.2.L,b.2.r1)).bind fun r=>lN r.1 r.2.1 r.2.2
theorem EK (d5:bj) (m:Value) (e:Nat) (j1:L.heap[e]? = some (.cells (bo d5 m).toArray 84 (0,0))) (i0:¬ T e) (jb:aF (a6.int .i64) (dT T [.box e (bo d5 m) 84]) L m d5.L) (y:LU×bj) (B:sV d5=some y):bg aR (fun k=>k=e) 42 [pt e 0] L (fun v w'=>∃ (v3:Value) (uZ:bI) (v5:Value),v=v3/\gG an T L w' [cr v3 uZ,.box e (bo y.2 v5) 84] 150 v3 uZ y.1/\w'.heap[e]? = some (.cells (bo y.2 v5).toArray 84 (0,0))/\aF (a6.int .i64) (dT T [cr v3 uZ,.box e (bo y.2 v5) 84]) w' v5 y.2.L/\m=v5):=by
 refine tO (c:=_) Tryz.func42 rfl T 132 Tryz.ntmps42 hT rfl j1 i0 fun a I=>?_;replace I:=I.fS jb;unfold sV at B;refine am I fun a I=>?_;refine aM (J:=fun a w=>∃ (t:LU) (ea:LN) (ed:Int) (d:Value) (d7:LV),St L (fun k=>k=e) T 132 [(0,pt e 0),(3,d)] [cr d d7,.box e [m,aj ed] 84] [ap an d7 t,aL (a6.int .i64) m ea] a w/\lN t ea ed=some y) ?_ ?_
 ·refine am I fun a I=>?_;obtain⟨ih,hf,B⟩:=bd B;refine wl rfl (cN I oh rfl rfl 0 rfl (bL _ _ (I.drop 0).dlt d5 7 _ _ (I.zb 0 rfl) (I.zi 0 rfl) (aF.lent (i:=0) rfl I.g0) _ hf) fun _ w C O=>?_);obtain⟨m3,he,hrow,fn,c2⟩:=C;obtain rfl:=he.symm;subst c2;refine⟨(bo ih.2 m),hrow,fun a I=>?_⟩;replace I:=I.fS (aF.back (i:=0) rfl fn);refine am I fun a I=>?_;replace I:=I.zn an 150 (by decide);obtain⟨r1,gH,hMo1⟩:=bd B;refine bF _ (fun s a w=>∃ (ab:LU) (d1:Int) (a4:LN) (a5:Int) (eX:Value) (d8:LV),(ab,d1,a4,a5)=s/\St L (fun k=>k=e) T 132 [(0,pt e 0),(3,eX),(4,aj d1)] [cr eX d8,.box e [m,aj a5] 84] [ap an d8 ab,aL (a6.int .i64) m a4] a w) gH ⟨_,_,_,_,_,_,rfl,I.mt [0,1] [0,1]⟩ ?_;rintro s a w f1 ⟨ab,d1,a4,a5,eX,d8,rfl,I⟩ B hf1;have B:pd ab d1 a4 a5=some f1:=B;unfold pd at B;refine aC ?_;refine am I fun a I=>?_;rcases cd B with⟨ht,B⟩|⟨ht,B⟩
  ·refine am I fun a I=>?_;refine aC ?_;refine am I fun a I=>?_;obtain⟨V,hd,B⟩:=bd B;refine wl rfl (cN I oh rfl rfl 1 rfl (bL _ _ (I.drop 1).dlt (bj.mk a4 a5) 3 _ _ (I.zb 1 rfl) (I.zi 1 rfl) (aF.lent (i:=1) rfl I.g1) _ hd) fun _ w C O=>?_);obtain⟨md,he,hrow,fr,c3⟩:=C;obtain rfl:=he.symm;subst c3;refine⟨(bo V.2 m),hrow,fun a I=>?_⟩;replace I:=I.fS (aF.back (i:=1) rfl fr);refine am I fun a I=>?_;refine qy I (bw (ps:=[(0,.tmp 22)]) I Ga ti rfl (us:=[[.bool (V.1==1)]]) ⟨rfl,trivial⟩ (ws:=[.bool (V.1==1),.slice none 0 0,aj 0,aj 0]) rfl) fun a I=>?_;refine wl rfl (bf (ps:=[(0,.tmp 23)]) I Ko ti (zl:=[.bool false,.slice none 0 0,aj 0,aj 0]) (by kernel_rfl) rfl (us:=[[.bool (V.1==1),.slice none 0 0,aj 0,aj 0]]) ⟨rfl,trivial⟩ (ws:=[.bool (V.1==1),.slice none 0 0,aj 0,aj 0]) rfl rfl rfl rfl fun js a w O I=>?_);replace I:=(I.lit (R:=an) (us:=[.bool (V.1==1),.slice none 0 0,aj 0,aj 0]) (xs:=[(aN.mk (V.1==1) ([]) 0 0)]) 0 rfl (by decide) (aP (R:=an) (x:=(aN.mk (V.1==1) ([]) 0 0)) (⟨_,rfl,aF.nil_ _ _ _⟩)) rfl rfl).zf (R:=an) 0 rfl 0 rfl;obtain⟨hu,B⟩:=aW B;refine wl rfl (bG (R:=an) (xs:=ab) (ys:=[(aN.mk (V.1==1) ([]) 0 0)]) I Ko (by decide) (by decide) rfl rfl 0 rfl 3 rfl 0 rfl hu rfl fun ms ks a w O I=>?_);refine am I fun a I=>?_;exact fin
  refine am I fun a I=>?_;cases B
  have hr:=hf1 _ rfl;subst hr;have B:lN ab a4 a5=some y:=hMo1;exact fin
 rintro a w ⟨t,ea,ed,d,d7,I,B⟩;unfold lN at B;refine aM (J:=fun a w=>∃ (eq:LU) (dl:LN) (dn:Int) (c4:LV),St L (fun k=>k=e) T 132 [(3,d)] [cr d c4,.box e [m,aj dn] 84] [ap an c4 eq,aL (a6.int .i64) m dl] a w/\nz eq dl dn=some y) ?_ ?_
 ·refine am I fun a I=>?_;obtain⟨r1,gH,hMo1⟩:=bd B;refine bF _ (fun s a w=>∃ (n:LU) (b:Int) (Q:LN) (S:Int) (h:LV),(n,b,Q,S)=s/\St L (fun k=>k=e) T 132 [(0,pt e 0),(3,d),(27,aj (t.length:Int)),(28,aj b)] [cr d h,.box e [m,aj S] 84] [ap an h n,aL (a6.int .i64) m Q] a w) gH ⟨_,_,_,_,_,rfl,I.mt [0,1] [0,1]⟩ ?_;rintro s a w f1 ⟨n,b,Q,S,h,rfl,I⟩ B hf1;have B:jK t n b Q S=some f1:=B;unfold jK at B;refine am I fun a I=>?_;refine aC ?_;rcases cd B with⟨hv,B⟩|⟨hv,B⟩
  ·refine am I fun a I=>?_;refine aM (J:=fun a w=>∃ (er:LU) (ds:LN) (e0:Int) (d9:LV),St L (fun k=>k=e) T 132 [(0,pt e 0),(3,d),(27,aj (t.length:Int)),(28,aj b)] [cr d d9,.box e [m,aj e0] 84] [ap an d9 er,aL (a6.int .i64) m ds] a w/\qE b er ds e0=some f1) ?_ ?_
   ·refine am I fun a I=>?_;have hL:=I;replace hL:=hL.zf (R:=an) 0 rfl 0 rfl;obtain⟨m2,hc,B⟩:=bd B;refine kF I Nl (xp _ _ hL.dlt n b _ hL.g0 _ hc) fun w a I=>?_;refine aM (J:=fun a w=>∃ (p:Int),St L (fun k=>k=e) T 132 [(0,pt e 0),(3,d),(5,aj b),(7,aj p),(27,aj (t.length:Int)),(28,aj b)] [cr d h,.box e [m,aj S] 84] [ap an h n,aL (a6.int .i64) m Q] a w/\jI n b Q S p=some f1) ?_ ?_
    ·refine am I fun a I=>?_;obtain⟨hs,h4,B⟩:=bd B;refine wl rfl (dx (R:=an) I uF nN rfl rfl 0 rfl 0 rfl h4 rfl fun k0 ll lt kt hw hx hy a I=>?_);obtain⟨mv,rfl,hh⟩:=hw;replace I:=I.fS hh;refine am I fun a I=>?_;refine qy I (cg (k:=0) I OP 0 rfl hx hy rfl id (us:=[.bool hs.f]) rfl rfl (fun _=>rfl)) fun a I=>?_;exact fz
    rintro a w ⟨p,I,B⟩;unfold jI at B;refine aM (J:=fun a w=>∃ (ag:LN) (ak:Int) (o:Bool) (ex eT:Int) (g:Nat),St L (fun k=>k=e) T 132 [(0,pt e 0),(3,d),(5,aj b),(7,aj p),(8,pt g 0),(27,aj (t.length:Int)),(28,aj b)] [cr d h,.box e [m,aj ak] 84,.box g [.bool o,.slice none 0 0,aj ex,aj eT] 150] [ap an h n,aL (a6.int .i64) m ag] a w/\pc n b p ag ak o ex eT=some f1) ?_ ?_
    ·obtain⟨N196,h2⟩:∃ N,N=w.heap.size:=⟨_,rfl⟩;replace I:=I.fact (IS N196) (pP h2);refine dr [(6,.blk (some e)),(9,.blk (some e)),(12,.new N196)] I fun w hQ I=>?_;refine gE [0,1] I fun a I=>?_;obtain⟨M,h3,B⟩:=bd B;obtain⟨hl,i1,lv,l0,hz,el,hA,hB⟩:=kL (R:=an) I uF nN 0 rfl 1 rfl h3;obtain⟨n0,rfl,hi⟩:=hz;replace I:=I.fS hi;refine dq 2 I (v:=pt hl i1) (hB rfl rfl) fun a I=>?_;refine gE [3] I fun a I=>?_;refine dq 4 I (l:=[.blk (some e),.blk (some e)]) (v:=.bool M.f) (cg (k:=0) I OP 0 rfl el hA rfl (gA I 0 rfl (yV el) 1 rfl rfl (by decide) (gA I 0 rfl (yV el) 1 rfl rfl (by decide) bO)) (us:=[.bool M.f]) rfl rfl (fun _=>rfl)) fun a I=>?_;refine gE [5,8] I fun a I=>?_;obtain⟨z,f6,B⟩:=bd B;refine dQ (i:=6) (j:=11) rfl rfl (by kernel_rfl) rfl rfl ?_ ?_
     ·skip;refine id (cN I oh rfl rfl 1 rfl (bL _ _ (I.drop 1).dlt (bj.mk Q S) 4 _ _ (I.zb 1 rfl) (I.zi 1 rfl) (aF.lent (i:=1) rfl I.g3) _ f6) fun _ w C O=>?_);obtain⟨n1,he,hrow,fs,bs⟩:=C;obtain rfl:=he.symm;subst bs;refine⟨(bo z.2 m),hrow,fun a I=>⟨jf rfl O gB,?_⟩⟩;replace I:=I.fS (aF.back (i:=1) rfl fs);refine gE [7] I fun a I=>?_;obtain⟨Y,f7,B⟩:=bd B;refine dQ (i:=9) (j:=11) rfl rfl (by kernel_rfl) rfl rfl ?_ ?_
      ·skip;refine id (cN I oh rfl rfl 1 rfl (bL _ _ (I.drop 1).dlt (bj.mk z.2.L z.2.r1) 6 _ _ (I.zb 1 rfl) (I.zi 1 rfl) (aF.lent (i:=1) rfl I.g0) _ f7) fun _ w C O=>?_);obtain⟨n2,he,hrow,fM,bt⟩:=C;obtain rfl:=he.symm;subst bt;refine⟨(bo Y.2 m),hrow,fun a I=>⟨jf rfl O gB,?_⟩⟩;replace I:=I.fS (aF.back (i:=1) rfl fM);refine dq 10 I (v:=.agg #[.bool M.f,.slice none 0 0,aj (IntKind.i64.wrap (1+z.1)),aj Y.1]) (bw (ps:=[(0,.tmp 48),(2,.tmp 51),(3,.tmp 53)]) I Ga ti rfl (us:=[[.bool M.f],[aj (IntKind.i64.wrap (1+z.1))],[aj Y.1]]) ⟨rfl,⟨rfl,⟨rfl,trivial⟩⟩⟩ (ws:=[.bool M.f,.slice none 0 0,aj (IntKind.i64.wrap (1+z.1)),aj Y.1]) rfl) fun a I=>?_;have hC:=(I.g3:N196<=w.heap.size);refine e1 11 (df I ti rfl fun hm hD a w O I=>⟨fq (O),?_⟩);refine dw 12 (.blk (some hm)) _ (by kernel_rfl) (pT (cC hC hD)) ?_;refine es 12 I fun w I=>?_;refine eD ?_;exact fin
      skip;have hE:=(I.g2:N196<=w.heap.size);refine id (df I ti rfl fun hn hF a w O I=>⟨fq (O),?_⟩);refine dw 12 (.blk (some hn)) _ (by kernel_rfl) (pT (cC hE hF)) ?_;refine e1 9 (cN I oh rfl rfl 2 rfl (bL _ _ (I.drop 2).dlt (bj.mk z.2.L z.2.r1) 6 _ _ (I.zb 2 rfl) (I.zi 2 rfl) (aF.lent (i:=2) rfl I.g0) _ f7) fun _ w C O=>?_);obtain⟨ii,he,hrow,b0,P⟩:=C;obtain rfl:=he.symm;subst P;refine⟨(bo Y.2 m),hrow,fun a I=>⟨jf rfl O gB,?_⟩⟩;replace I:=I.fS (aF.back (i:=2) rfl b0);refine dq 10 I (v:=.agg #[.bool M.f,.slice none 0 0,aj (IntKind.i64.wrap (1+z.1)),aj Y.1]) (bw (ps:=[(0,.tmp 48),(2,.tmp 51),(3,.tmp 53)]) I Ga ti rfl (us:=[[.bool M.f],[aj (IntKind.i64.wrap (1+z.1))],[aj Y.1]]) ⟨rfl,⟨rfl,⟨rfl,trivial⟩⟩⟩ (ws:=[.bool M.f,.slice none 0 0,aj (IntKind.i64.wrap (1+z.1)),aj Y.1]) rfl) fun a I=>?_;refine es 12 I fun w I=>?_;refine eD ?_;exact fin
     skip;have hG:=(I.g1:N196<=w.heap.size);refine id (df I ti rfl fun ho hH a w O I=>⟨fq (O),?_⟩);refine dw 12 (.blk (some ho)) _ (by kernel_rfl) (pT (cC hG hH)) ?_;refine e1 6 (cN I oh rfl rfl 2 rfl (bL _ _ (I.drop 2).dlt (bj.mk Q S) 4 _ _ (I.zb 2 rfl) (I.zi 2 rfl) (aF.lent (i:=2) rfl I.g3) _ f6) fun _ w C O=>?_);obtain⟨n3,he,hrow,g4,c1⟩:=C;obtain rfl:=he.symm;subst c1;refine⟨(bo z.2 m),hrow,fun a I=>⟨jf rfl O gB,?_⟩⟩;replace I:=I.fS (aF.back (i:=2) rfl g4);refine gE [7] I fun a I=>?_;obtain⟨d3,hg,B⟩:=bd B;refine e1 9 (cN I oh rfl rfl 2 rfl (bL _ _ (I.drop 2).dlt (bj.mk z.2.L z.2.r1) 6 _ _ (I.zb 2 rfl) (I.zi 2 rfl) (aF.lent (i:=2) rfl I.g0) _ hg) fun _ w C O=>?_);obtain⟨ii,he,hrow,b0,P⟩:=C;obtain rfl:=he.symm;subst P;refine⟨(bo d3.2 m),hrow,fun a I=>⟨jf rfl O gB,?_⟩⟩;replace I:=I.fS (aF.back (i:=2) rfl b0);refine dq 10 I (v:=.agg #[.bool M.f,.slice none 0 0,aj (IntKind.i64.wrap (1+z.1)),aj d3.1]) (bw (ps:=[(0,.tmp 48),(2,.tmp 51),(3,.tmp 53)]) I Ga ti rfl (us:=[[.bool M.f],[aj (IntKind.i64.wrap (1+z.1))],[aj d3.1]]) ⟨rfl,⟨rfl,⟨rfl,trivial⟩⟩⟩ (ws:=[.bool M.f,.slice none 0 0,aj (IntKind.i64.wrap (1+z.1)),aj d3.1]) rfl) fun a I=>?_;refine es 12 I fun w I=>?_;refine eD ?_;exact fin
    rintro a w ⟨ag,ak,o,ex,eT,g,I,B⟩;unfold pc at B;refine aM (J:=fun a w=>∃ (cl:LN) (cv A D:Int),St L (fun k=>k=e) T 132 [(0,pt e 0),(3,d),(5,aj b),(7,aj p),(8,pt g 0),(27,aj (t.length:Int)),(28,aj b)] [cr d h,.box e [m,aj cv] 84,.box g [.bool o,.slice none 0 0,aj A,aj D] 150] [ap an h n,aL (a6.int .i64) m cl] a w/\jH n b p o cl cv A D=some f1) ?_ ?_
    ·refine am I fun a I=>?_;rcases cd B with⟨hI,B⟩|⟨hI,B⟩
     ·refine am I fun a I=>?_;refine dr [(2,.blk (some e)),(6,.blk (some g)),(8,.blk (some g))] I fun w hQ I=>?_;refine gE [1,5] I fun a I=>?_;obtain⟨h0,f5,B⟩:=bd B;refine dQ (i:=0) (j:=2) rfl rfl (by kernel_rfl) rfl rfl ?_ ?_
      ·skip;refine id (bf (ps:=[(0,.const (aj 0)),(1,.const (aj 1)),(2,.const (aj 2)),(3,.const (aj 4)),(4,.const (aj 8)),(5,.const (aj 16))]) I Ms Ry (zl:=[aj 0,aj 0,aj 0,aj 0,aj 0,aj 0]) (by kernel_rfl) rfl (us:=[[aj 0],[aj 1],[aj 2],[aj 4],[aj 8],[aj 16]]) ⟨rfl,⟨rfl,⟨rfl,⟨rfl,⟨rfl,⟨rfl,trivial⟩⟩⟩⟩⟩⟩ (ws:=[aj 0,aj 1,aj 2,aj 4,aj 8,aj 16]) rfl rfl rfl rfl fun k1 a w O I=>⟨fq (O),?_⟩);refine e1 2 (cN I oh rfl rfl 2 rfl (bL _ _ (I.drop 2).dlt (bj.mk ag ak) 6 _ _ (I.zb 2 rfl) (I.zi 2 rfl) (aF.lent (i:=2) rfl I.g1) _ f5) fun _ w C O=>?_);obtain⟨n4,he,hrow,g5,bl⟩:=C;obtain rfl:=he.symm;subst bl;refine⟨(bo h0.2 m),hrow,fun a I=>⟨jf rfl O gB,?_⟩⟩;replace I:=((I.fS (aF.back (i:=2) rfl g5)).lit (R:=(a6.int .i64)) (us:=[aj 0,aj 1,aj 2,aj 4,aj 8,aj 16]) (xs:=[0,1,2,4,8,16]) 0 rfl (by decide) ((aP (R:=(a6.int .i64)) (x:=0) rfl).append ((aP (R:=(a6.int .i64)) (x:=1) rfl).append ((aP (R:=(a6.int .i64)) (x:=2) rfl).append ((aP (R:=(a6.int .i64)) (x:=4) rfl).append ((aP (R:=(a6.int .i64)) (x:=8) rfl).append (aP (R:=(a6.int .i64)) (x:=16) rfl)))))) rfl rfl).zf (R:=(a6.int .i64)) 0 rfl 0 rfl;obtain⟨a9,Z,B⟩:=bd B;obtain⟨af,b2,f8,ao,av,I⟩:=lq (R:=(a6.int .i64)) I Jx EY 0 rfl Z;obtain rfl:=ao;refine dq 3 I (v:=pt af b2) (av rfl rfl) fun a I=>?_;refine dq 4 I (l:=[.blk (some g)]) (v:=aj a9) (w6 (k:=0) I EY 0 rfl rfl (Kr 2 rfl rfl Ew) (us:=[aj a9]) rfl rfl (fun _=>rfl)) fun a I=>?_;refine es 6 I fun w I=>?_;refine gE [7] I fun a I=>?_;refine es 8 I fun w I=>?_;refine eD ?_;exact fin
      skip;refine id (cN I oh rfl rfl 1 rfl (bL _ _ (I.drop 1).dlt (bj.mk ag ak) 6 _ _ (I.zb 1 rfl) (I.zi 1 rfl) (aF.lent (i:=1) rfl I.g1) _ f5) fun _ w C O=>?_);obtain⟨n6,he,hrow,g6,bi⟩:=C;obtain rfl:=he.symm;subst bi;refine⟨(bo h0.2 m),hrow,fun a I=>⟨jf rfl O gB,?_⟩⟩;replace I:=I.fS (aF.back (i:=1) rfl g6);refine dQ (i:=0) (j:=6) rfl rfl (by kernel_rfl) rfl rfl ?_ ?_
      ·skip;refine id (bf (ps:=[(0,.const (aj 0)),(1,.const (aj 1)),(2,.const (aj 2)),(3,.const (aj 4)),(4,.const (aj 8)),(5,.const (aj 16))]) I Ms Ry (zl:=[aj 0,aj 0,aj 0,aj 0,aj 0,aj 0]) (by kernel_rfl) rfl (us:=[[aj 0],[aj 1],[aj 2],[aj 4],[aj 8],[aj 16]]) ⟨rfl,⟨rfl,⟨rfl,⟨rfl,⟨rfl,⟨rfl,trivial⟩⟩⟩⟩⟩⟩ (ws:=[aj 0,aj 1,aj 2,aj 4,aj 8,aj 16]) rfl rfl rfl rfl fun hp a w O I=>⟨fq (O),?_⟩);replace I:=(I.lit (R:=(a6.int .i64)) (us:=[aj 0,aj 1,aj 2,aj 4,aj 8,aj 16]) (xs:=[0,1,2,4,8,16]) 0 rfl (by decide) ((aP (R:=(a6.int .i64)) (x:=0) rfl).append ((aP (R:=(a6.int .i64)) (x:=1) rfl).append ((aP (R:=(a6.int .i64)) (x:=2) rfl).append ((aP (R:=(a6.int .i64)) (x:=4) rfl).append ((aP (R:=(a6.int .i64)) (x:=8) rfl).append (aP (R:=(a6.int .i64)) (x:=16) rfl)))))) rfl rfl).zf (R:=(a6.int .i64)) 0 rfl 0 rfl;obtain⟨a9,Z,B⟩:=bd B;obtain⟨af,b2,f8,ao,av,I⟩:=lq (R:=(a6.int .i64)) I Jx EY 0 rfl Z;obtain rfl:=ao;refine dq 3 I (v:=pt af b2) (av rfl rfl) fun a I=>?_;refine dq 4 I (l:=[.blk (some g)]) (v:=aj a9) (w6 (k:=0) I EY 0 rfl rfl (Kr 2 rfl rfl Ew) (us:=[aj a9]) rfl rfl (fun _=>rfl)) fun a I=>?_;refine es 6 I fun w I=>?_;refine gE [7] I fun a I=>?_;refine es 8 I fun w I=>?_;refine eD ?_;exact fin
      skip;refine id (vd I rfl rfl (us:=[aj 5]) rfl EY 2 rfl rfl rfl (oc rfl on) fun w O I=>⟨jf rfl O gB,?_⟩);refine e1 0 (bf (ps:=[(0,.const (aj 0)),(1,.const (aj 1)),(2,.const (aj 2)),(3,.const (aj 4)),(4,.const (aj 8)),(5,.const (aj 16))]) I Ms Ry (zl:=[aj 0,aj 0,aj 0,aj 0,aj 0,aj 0]) (by kernel_rfl) rfl (us:=[[aj 0],[aj 1],[aj 2],[aj 4],[aj 8],[aj 16]]) ⟨rfl,⟨rfl,⟨rfl,⟨rfl,⟨rfl,⟨rfl,trivial⟩⟩⟩⟩⟩⟩ (ws:=[aj 0,aj 1,aj 2,aj 4,aj 8,aj 16]) rfl rfl rfl rfl fun hp a w O I=>⟨fq (O),?_⟩);replace I:=(I.lit (R:=(a6.int .i64)) (us:=[aj 0,aj 1,aj 2,aj 4,aj 8,aj 16]) (xs:=[0,1,2,4,8,16]) 0 rfl (by decide) ((aP (R:=(a6.int .i64)) (x:=0) rfl).append ((aP (R:=(a6.int .i64)) (x:=1) rfl).append ((aP (R:=(a6.int .i64)) (x:=2) rfl).append ((aP (R:=(a6.int .i64)) (x:=4) rfl).append ((aP (R:=(a6.int .i64)) (x:=8) rfl).append (aP (R:=(a6.int .i64)) (x:=16) rfl)))))) rfl rfl).zf (R:=(a6.int .i64)) 0 rfl 0 rfl;obtain⟨a9,Z,B⟩:=bd B;obtain⟨af,b2,f8,ao,av,I⟩:=lq (R:=(a6.int .i64)) I Jx EY 0 rfl Z;obtain rfl:=ao;refine dq 3 I (v:=pt af b2) (av rfl rfl) fun a I=>?_;refine gE [4,7] I fun a I=>?_;refine es 8 I fun w I=>?_;refine eD ?_;exact fin
     exact fz
    rintro a w ⟨cl,cv,A,D,I,B⟩;unfold jH at B;refine aM (J:=fun a w=>∃ (e2:LN) (e3:Int) (d2:(List dd)) (d4:Value) (dc:LV),St L (fun k=>k=e) T 132 [(0,pt e 0),(3,d),(5,aj b),(8,pt g 0),(27,aj (t.length:Int)),(28,aj b)] [cr d h,.box e [m,aj e3] 84,yT d4 dc,.box g [.bool o,d4,aj A,aj D] 150] [ap an h n,aL (a6.int .i64) m e2,ap dG dc d2] a w/\nA n b o A D e2 e3 d2=some f1) ?_ ?_
    ·refine am I fun a I=>?_;obtain⟨ib,hb,B⟩:=bd B;refine wl rfl (cN I oh rfl rfl 1 rfl (bL _ _ (I.drop 1).dlt (bj.mk cl cv) 4 _ _ (I.zb 1 rfl) (I.zi 1 rfl) (aF.lent (i:=1) rfl I.g1) _ hb) fun _ w C O=>?_);obtain⟨nd,he,hrow,g7,b4⟩:=C;obtain rfl:=he.symm;subst b4;refine⟨(bo ib.2 m),hrow,fun a I=>?_⟩;replace I:=I.fS (aF.back (i:=1) rfl g7);refine am I fun a I=>?_;replace I:=I.zn dG 147 (by decide);obtain⟨r2,j3,hMo2⟩:=bd B;refine bF _ (fun s a w=>∃ (r:Int) (a2:LN) (a3:Int) (u:(List dd)) (F:Value) (E:LV),(r,a2,a3,u)=s/\St L (fun k=>k=e) T 132 [(0,pt e 0),(3,d),(5,aj b),(7,aj p),(8,pt g 0),(9,aj r),(27,aj (t.length:Int)),(28,aj b)] [cr d h,.box e [m,aj a3] 84,yT F E,.box g [.bool o,F,aj A,aj D] 150] [ap an h n,aL (a6.int .i64) m a2,ap dG E u] a w) j3 ⟨_,_,_,_,_,_,rfl,I.mt [1,2,0,3] [2,1,0]⟩ ?_;rintro s a w f2 ⟨r,a2,a3,u,F,E,rfl,I⟩ B hf2;have B:jJ p o r a2 a3 u=some f2:=B;unfold jJ at B;refine aC ?_;refine am I fun a I=>?_;rcases cd B with⟨hJ,B⟩|⟨hJ,B⟩
     ·refine am I fun a I=>?_;refine aM (J:=fun a w=>∃ (e4:LN) (e5:Int) (et:(List dd)) (f3:Value) (dk:LV),St L (fun k=>k=e) T 132 [(0,pt e 0),(3,d),(5,aj b),(7,aj p),(8,pt g 0),(9,aj r),(27,aj (t.length:Int)),(28,aj b)] [cr d h,.box e [m,aj e5] 84,yT f3 dk,.box g [.bool o,f3,aj A,aj D] 150] [ap an h n,aL (a6.int .i64) m e4,ap dG dk et] a w/\qF r e4 e5 et=some f2) ?_ ?_
      ·refine am I fun a I=>?_;refine aM (J:=fun a w=>∃ (a0:LN) (a1:Int) (q:Bool) (G:Nat),St L (fun k=>k=e) T 132 [(0,pt e 0),(3,d),(5,aj b),(7,aj p),(8,pt g 0),(9,aj r),(10,pt G 0),(27,aj (t.length:Int)),(28,aj b)] [cr d h,.box e [m,aj a1] 84,yT F E,.box g [.bool o,F,aj A,aj D] 150,.box G [.bool q,.bool false,aj 0,aj 0] 147] [ap an h n,aL (a6.int .i64) m a0,ap dG E u] a w/\jG p o r u a0 a1 q=some f2) ?_ ?_
       ·refine am I fun a I=>?_;obtain⟨i9,ha,B⟩:=bd B;refine wl rfl (cN I oh rfl rfl 1 rfl (bL _ _ (I.drop 1).dlt (bj.mk a2 a3) 3 _ _ (I.zb 1 rfl) (I.zi 1 rfl) (aF.lent (i:=1) rfl I.g1) _ ha) fun _ w C O=>?_);obtain⟨ng,he,hrow,g8,bb⟩:=C;obtain rfl:=he.symm;subst bb;refine⟨(bo i9.2 m),hrow,fun a I=>?_⟩;replace I:=I.fS (aF.back (i:=1) rfl g8);refine am I fun a I=>?_;rcases cd B with⟨hK,B⟩|⟨hK,B⟩
        ·refine am I fun a I=>?_;refine qy I (bw (ps:=[(0,.tmp 76)]) I K0 xG rfl (us:=[[.bool true]]) ⟨rfl,trivial⟩ (ws:=[.bool true,.bool false,aj 0,aj 0]) rfl) fun a I=>?_;refine ka I xG fun k2 lb a w O I=>?_;exact fz
        refine am I fun a I=>?_;refine qy I (bw (ps:=[(0,.tmp 76)]) I K0 xG rfl (us:=[[.bool (p==0)]]) ⟨rfl,trivial⟩ (ws:=[.bool (p==0),.bool false,aj 0,aj 0]) rfl) fun a I=>?_;refine ka I xG fun k3 le a w O I=>?_;exact fz
       rintro a w ⟨a0,a1,q,G,I,B⟩;unfold jG at B;refine am I fun a I=>?_;refine aM (J:=fun a w=>∃ (K:Int),St L (fun k=>k=e) T 132 [(0,pt e 0),(3,d),(5,aj b),(7,aj p),(8,pt g 0),(9,aj r),(10,pt G 0),(11,aj K),(27,aj (t.length:Int)),(28,aj b)] [cr d h,.box e [m,aj a1] 84,yT F E,.box g [.bool o,F,aj A,aj D] 150,.box G [.bool q,.bool false,aj 0,aj 0] 147] [ap an h n,aL (a6.int .i64) m a0,ap dG E u] a w/\lc o r u a0 a1 q K=some f2) ?_ ?_
       ·exact fz
       rintro a w ⟨K,I,B⟩;unfold lc at B;refine am I fun a I=>?_;obtain⟨b3,h7,B⟩:=bd B;refine wl rfl (cN I oh rfl rfl 1 rfl (bL _ _ (I.drop 1).dlt (bj.mk a0 a1) K _ _ (I.zb 1 rfl) (I.zi 1 rfl) (aF.lent (i:=1) rfl I.g1) _ h7) fun _ w C O=>?_);obtain⟨nl,he,hrow,g9,b5⟩:=C;obtain rfl:=he.symm;subst b5;refine⟨(bo b3.2 m),hrow,fun a I=>?_⟩;replace I:=I.fS (aF.back (i:=1) rfl g9);refine go I fun a w I=>?_;refine aM (J:=fun a w=>∃ (ca:LN) (cb H:Int),St L (fun k=>k=e) T 132 [(0,pt e 0),(3,d),(5,aj b),(7,aj p),(8,pt g 0),(9,aj r),(10,pt G 0),(11,aj K),(27,aj (t.length:Int)),(28,aj b)] [cr d h,.box e [m,aj cb] 84,yT F E,.box g [.bool o,F,aj A,aj D] 150,.box G [.bool q,.bool false,aj H,aj 0] 147] [ap an h n,aL (a6.int .i64) m ca,ap dG E u] a w/\k8 o r u q K ca cb H=some f2) ?_ ?_
       ·refine aM (J:=fun a w=>∃ (ei:Bool) (ch:LN) (ck:Int),St L (fun k=>k=e) T 132 [(0,pt e 0),(3,d),(5,aj b),(7,aj p),(8,pt g 0),(9,aj r),(10,pt G 0),(11,aj K),(27,aj (t.length:Int)),(28,aj b),(92,.bool ei)] [cr d h,.box e [m,aj ck] 84,yT F E,.box g [.bool o,F,aj A,aj D] 150,.box G [.bool q,.bool false,aj b3.1,aj 0] 147] [ap an h n,aL (a6.int .i64) m ch,ap dG E u] a w/\k9 o r u q K b3 ei ch ck=some f2) ?_ ?_
        ·refine am I fun a I=>?_;rcases cd B with⟨fd,B⟩|⟨fd,B⟩
         ·refine am I fun a I=>?_;obtain⟨i5,h9,B⟩:=bd B;refine wg I rfl rfl rfl fd (cN I oh rfl rfl 1 rfl (bL _ _ (I.drop 1).dlt (bj.mk b3.2.L b3.2.r1) 2 _ _ (I.zb 1 rfl) (I.zi 1 rfl) (aF.lent (i:=1) rfl I.g0) _ h9) fun _ w C O=>?_);obtain⟨nm,he,hrow,gb,b9⟩:=C;obtain rfl:=he.symm;subst b9;refine⟨(bo i5.2 m),hrow,fun a I=>?_⟩;replace I:=I.fS (aF.back (i:=1) rfl gb);exact fz
         exact fz
        rintro a w ⟨ei,ch,ck,I,B⟩;unfold k9 at B;rcases cd B with⟨hM,B⟩|⟨hM,B⟩
        ·refine am I fun a I=>?_;refine qy I (N6 I rfl rfl) fun a I=>?_;obtain⟨i4,h8,B⟩:=bd B;refine wl rfl (cN I oh rfl rfl 1 rfl (bL _ _ (I.drop 1).dlt (bj.mk ch ck) (min K 3) _ _ (I.zb 1 rfl) (I.zi 1 rfl) (aF.lent (i:=1) rfl I.g1) _ h8) fun _ w C O=>?_);obtain⟨no,he,hrow,gi,b8⟩:=C;obtain rfl:=he.symm;subst b8;refine⟨(bo i4.2 m),hrow,fun a I=>?_⟩;replace I:=I.fS (aF.back (i:=1) rfl gi);exact fz
        exact fz
       rintro a w ⟨ca,cb,H,I,B⟩;unfold k8 at B;refine aM (J:=fun a w=>∃ (e6:LN) (e8:Int) (W:Bool) (X:Int),St L (fun k=>k=e) T 132 [(0,pt e 0),(3,d),(5,aj b),(7,aj p),(8,pt g 0),(9,aj r),(10,pt G 0),(27,aj (t.length:Int)),(28,aj b)] [cr d h,.box e [m,aj e8] 84,yT F E,.box g [.bool o,F,aj A,aj D] 150,.box G [.bool q,.bool W,aj H,aj X] 147] [ap an h n,aL (a6.int .i64) m e6,ap dG E u] a w/\k7 r u q H e6 e8 W X=some f2) ?_ ?_
       ·refine aM (J:=fun a w=>∃ (eg:Bool) (c5:LN) (c9:Int),St L (fun k=>k=e) T 132 [(0,pt e 0),(3,d),(5,aj b),(7,aj p),(8,pt g 0),(9,aj r),(10,pt G 0),(11,aj K),(27,aj (t.length:Int)),(28,aj b),(114,.bool eg)] [cr d h,.box e [m,aj c9] 84,yT F E,.box g [.bool o,F,aj A,aj D] 150,.box G [.bool q,.bool false,aj H,aj 0] 147] [ap an h n,aL (a6.int .i64) m c5,ap dG E u] a w/\jk r u q K H eg c5 c9=some f2) ?_ ?_
        ·refine am I fun a I=>?_;rcases cd B with⟨hN,B⟩|⟨hN,B⟩
         ·refine am I fun a I=>?_;rcases cd B with⟨fl,B⟩|⟨fl,B⟩
          ·refine am I fun a I=>?_;obtain⟨i3,h6,B⟩:=bd B;refine wg I rfl rfl rfl fl (cN I oh rfl rfl 1 rfl (bL _ _ (I.drop 1).dlt (bj.mk ca cb) 3 _ _ (I.zb 1 rfl) (I.zi 1 rfl) (aF.lent (i:=1) rfl I.g1) _ h6) fun _ w C O=>?_);obtain⟨ns,he,hrow,gs,b7⟩:=C;obtain rfl:=he.symm;subst b7;refine⟨(bo i3.2 m),hrow,fun a I=>?_⟩;replace I:=I.fS (aF.back (i:=1) rfl gs);exact fz
          exact fz
         exact fz
        rintro a w ⟨eg,c5,c9,I,B⟩;unfold jk at B;rcases cd B with⟨hP,B⟩|⟨hP,B⟩
        ·refine am I fun a I=>?_;obtain⟨i2,h5,B⟩:=bd B;refine wl rfl (cN I oh rfl rfl 1 rfl (bL _ _ (I.drop 1).dlt (bj.mk c5 c9) K _ _ (I.zb 1 rfl) (I.zi 1 rfl) (aF.lent (i:=1) rfl I.g1) _ h5) fun _ w C O=>?_);obtain⟨nv,he,hrow,gu,b6⟩:=C;obtain rfl:=he.symm;subst b6;refine⟨(bo i2.2 m),hrow,fun a I=>?_⟩;replace I:=I.fS (aF.back (i:=1) rfl gu);exact fz
        refine am I fun a I=>?_;exact fin
       rintro a w ⟨e6,e8,W,X,I,B⟩;unfold k7 at B;refine am I fun a I=>?_;refine wl rfl (bf (ps:=[(0,.tmp 122)]) I If xG (zl:=[.bool false,.bool false,aj 0,aj 0]) (by kernel_rfl) rfl (us:=[[.bool q,.bool W,aj H,aj X]]) ⟨rfl,trivial⟩ (ws:=[.bool q,.bool W,aj H,aj X]) rfl rfl rfl rfl fun k4 a w O I=>?_);replace I:=(I.lit (R:=dG) (us:=[.bool q,.bool W,aj H,aj X]) (xs:=[(dd.mk q W H X)]) 0 rfl (by decide) (aP (R:=dG) (x:=(dd.mk q W H X)) rfl) rfl rfl).zf (R:=dG) 0 rfl 0 rfl;obtain⟨hV,B⟩:=aW B;refine wl rfl (bG (R:=dG) (xs:=u) (ys:=[(dd.mk q W H X)]) I If (by decide) (by decide) rfl rfl 2 rfl 4 rfl 0 rfl hV rfl fun o1 l1 a w O I=>?_);exact fz
      rintro a w ⟨e4,e5,et,f3,dk,I,B⟩;unfold qF at B;exact fz
     refine am I fun a I=>?_;cases B
     have hr:=hf2 _ rfl;subst hr;have B:nA n b o A D a2 a3 u=some f1:=hMo2;exact fin
    rintro a w ⟨e2,e3,d2,d4,dc,I,B⟩;unfold nA at B;refine am I fun a I=>?_;obtain⟨hq,f4,B⟩:=bd B;refine wl rfl (dx (R:=an) I uF nN rfl rfl 0 rfl 0 rfl f4 rfl fun kk ls m0 l2 hW hX hY a I=>?_);obtain⟨j0,rfl,hj⟩:=hW;replace I:=(I.fS hj).zf (R:=dG) 2 rfl 3 rfl;refine wl rfl (sO (R:=an) (k:=0) (cs:=(vY hq j0)) (us:=[.bool o,d4,aj A,aj D]) (x':=(aN.mk o d2 A D)) I rfl rfl rfl nN 0 rfl 2 rfl hX hY f4 (⟨_,rfl,I.g1⟩) rfl rfl (⟨_,rfl,I.g0⟩) fun la w O I=>?_);exact fz
   rintro a w ⟨er,ds,e0,d9,I,B⟩;unfold qE at B;exact fz
  refine am I fun a I=>?_;cases B
  have hr:=hf1 _ rfl;subst hr;have B:nz n Q S=some y:=hMo1;exact fin
 rintro a w ⟨eq,dl,dn,c4,I,B⟩;unfold nz at B;refine am I fun a I=>?_;cases B
 refine aG I rfl (aw I rfl aI) ?_;exact⟨d,c4,m,rfl,I.zm ⟨.inr (aO (i:=0) rfl),⟨.inr (aO (i:=1) rfl),trivial⟩⟩ 0 rfl 0 rfl 1 rfl (by decide),I.zb 1 rfl,(aF.up ⟨.inr (aO (i:=0) rfl),⟨.inr (aO (i:=1) rfl),trivial⟩⟩ I.g1),rfl⟩
end
end
section
set_option maxRecDepth 100000
set_option maxHeartbeats 4000000
variable (T:Nat->Prop) (L:World) (hT:TW T L)
include hT
noncomputable section
def gD (b:au):=gd (bP (([]:List ae).length+b.k.length)) <| some ((au.mk b.d b.u (([]:List ae)++b.k) b.a b.t b.j b.w))
theorem nZ (b:au) (h:Value) (g:aF ad T L h b.k) (y:au) (B:gD b=some y):bg aR No 120 [.agg (bh b h).toArray] L (fun v w'=>∃ (f:Value) (rN:bI),v = .agg (bh y f).toArray/\gG ad T L w' [aA f rN] 30 f rN y.k):=by
 refine en Tryz.func120 Tryz.ntmps120 hT fun a I=>?_;replace I:=I.fS (aF.dn g);unfold gD at B;refine kB I fun j m a w O I=>?_;refine ka I eJ fun l n a w O I=>?_;refine am I fun a I=>?_;replace I:=I.zn ad 30 (by decide);obtain⟨d,B⟩:=aW B;refine wl rfl (bG (R:=ad) (xs:=([]:List ae)) (ys:=b.k) I iA (by decide) (by decide) rfl rfl 0 rfl 0 rfl 1 rfl d rfl fun e c a w O I=>?_);refine go I fun a w I=>?_;cases B
 refine aG I rfl (rC 1 I) ?_;exact⟨e,c,rfl,I.zo ⟨.inr (aO (i:=0) rfl),trivial⟩ 0 rfl 0 rfl⟩
def qG (b:LR):=some (b)
def nB (e c:LR) (b:Int):Option (Fl (LR×Int) (LR)):=cond (decide (b<(e.length:Int))) ((bu e b).bind fun f=>(gD f).bind fun d=>gd (bP (c.length+([d]).length)) <| some (.go ((c++([d])),IntKind.i64.wrap (b+1)))) (some (.out c))
def s4 (b:LR):=(loop (fun s:LR×Int=>nB b s.1 s.2) (([]:List au),0)).bind fun r=>qG r
theorem ER (g:LR) (q:Value) (E:aF aa T L q g) (y:LR) (B:s4 g=some y):bg aR No 149 [q] L (fun v w'=>∃ (A:Value) (rN:bI),v=A/\gG aa T L w' [aJ A rN] 33 A rN y):=by
 refine en Tryz.func149 Tryz.ntmps149 hT fun a I=>?_;replace I:=I.fS (aF.dn E);unfold s4 at B;refine am I fun a I=>?_;refine aM (J:=fun a w=>∃ (j:LR) (f:Value) (d:LV),St L No T 19 [(3,f)] [aJ f d] [ap aa d j] a w/\qG j=some y) ?_ ?_
 ·refine am I fun a I=>?_;replace I:=I.zn aa 33 (by decide);obtain⟨X,D,hMo1⟩:=bd B;refine bF _ (fun s a w=>∃ (c:LR) (e:Int) (k:Value) (h:LV),(c,e)=s/\St L No T 19 [(3,k),(6,q),(7,aj (g.length:Int)),(8,aj e)] [aJ k h] [ap aa h c,aL aa q g] a w) D ⟨_,_,_,_,rfl,I.mt [0] [0,1]⟩ ?_;rintro s a w P ⟨c,e,k,h,rfl,I⟩ B hf1;have B:nB g c e=some P:=B;unfold nB at B;refine am I fun a I=>?_;refine aC ?_;rcases cd B with⟨t,B⟩|⟨t,B⟩
  ·refine am I fun a I=>?_;refine aC ?_;refine am I fun a I=>?_;obtain⟨r,n,B⟩:=bd B;refine wl rfl (bn (R:=aa) I mV j6 rfl rfl 1 rfl n rfl fun F S K u a I=>?_);obtain⟨V,rfl,p⟩:=u;replace I:=I.fS p;refine kA I eJ fun G Q a w O I=>?_;refine go I fun a w I=>?_;obtain⟨b,o,B⟩:=bd B;refine kc I H4 (nZ _ _ I.dlt r _ I.g0 _ o) fun _ w C a O U=>?_;obtain⟨l,M,he,m⟩:=C;obtain rfl:=he.symm;have I:=qs U m;refine wl rfl (bf (ps:=[(0,.tmp 14)]) I tN eJ (zl:=[aj 0,a8 cp,a8 cp,.slice none 0 0,aj 0,aj 0,aj 0,.bool false]) (by kernel_rfl) rfl (us:=[(bh b l)]) ⟨rfl,trivial⟩ (ws:=(bh b l)) rfl rfl rfl rfl fun H a w O I=>?_);replace I:=I.zf (R:=ad) 1 rfl 0 rfl;replace I:=(I.lit (R:=aa) (us:=(bh b l)) (xs:=[b]) 0 rfl (by decide) (aP (R:=aa) (x:=b) (⟨_,rfl,I.g0⟩)) rfl rfl).zf (R:=aa) 0 rfl 0 rfl;obtain⟨z,B⟩:=aW B;refine wl rfl (bG (R:=aa) (xs:=c) (ys:=[b]) I tN (by decide) (by decide) rfl rfl 1 rfl 6 rfl 0 rfl z rfl fun W N a w O I=>?_);exact fz
  exact fz
 rintro a w ⟨j,f,d,I,B⟩;unfold qG at B;refine am I fun a I=>?_;cases B
 refine aG I rfl (aw I rfl aI) ?_;exact⟨f,d,rfl,I.zo ⟨.inr (aO (i:=0) rfl),trivial⟩ 0 rfl 0 rfl⟩
def fg (b:ah):=gd (bP (([]:List a7).length+b.i.length)) <| (s4 b.s).bind fun c=>some ((ah.mk b.r (([]:List a7)++b.i) c))
theorem eA (b:ah) (p q:Value) (n:aF ac T L p b.i) (o:aF aa T L q b.s) (y:ah) (B:fg b=some y):bg aR No 95 [.agg (aU b p q).toArray] L (fun v w'=>∃ (d:Value) (uZ:bI) (e:Value) (Ba:bI),v = .agg (aU y d e).toArray/\gG ac T L w' [be d uZ,aJ e Ba] 91 d uZ y.i/\gG aa T L w' [be d uZ,aJ e Ba] 33 e Ba y.s/\(∀ k,d.ownBlock=some k->e.ownBlock≠some k)):=by
 refine en Tryz.func95 Tryz.ntmps95 hT fun a I=>?_;replace I:=(I.fS (aF.dn n)).fS (aF.dn o);unfold fg at B;refine kB I fun r u a w O I=>?_;refine ka I mw fun t x a w O I=>?_;refine am I fun a I=>?_;replace I:=I.zn ac 91 (by decide);obtain⟨j,B⟩:=aW B;refine wl rfl (bG (R:=ac) (xs:=([]:List a7)) (ys:=b.i) I Ev (by decide) (by decide) rfl rfl 0 rfl 0 rfl 2 rfl j rfl fun l g a w O I=>?_);refine go I fun a w I=>?_;obtain⟨z,f,B⟩:=bd B;refine kc I PQ (ER _ _ I.dlt b.s _ I.g2 _ f) fun _ w C a O U=>?_;obtain⟨m,h,he,c⟩:=C;obtain rfl:=he.symm;have I:=qs U c;refine go I fun a w I=>?_;cases B
 refine aG I rfl (rC 2 I) ?_;exact⟨l,g,m,h,rfl,I.zo ⟨.inr (aO (i:=1) rfl),⟨.inr (aO (i:=0) rfl),trivial⟩⟩ 1 rfl 1 rfl,I.zo ⟨.inr (aO (i:=1) rfl),⟨.inr (aO (i:=0) rfl),trivial⟩⟩ 0 rfl 0 rfl,(I.zp 1 rfl 0 rfl (by decide))⟩
def gO (b:Int):=some (b)
def gP (c:ByteArray) (d b:Int):Option (Fl (Int×Int) (Fl (Int) Int)):=cond (decide (b<(c.size:Int))) ((bu c.toList b).bind fun e=>cond (decide (((e.toNat:Int):Int)<48)) (some (.out (.out (-1)))) ((bu c.toList b).bind fun f=>cond (decide ((57:Int)<(f.toNat:Int))) (some (.out (.out (-1)))) ((bu c.toList b).bind fun g=>some (.go (IntKind.i64.wrap ((IntKind.i64.wrap (10*d))+(IntKind.i64.wrap (IntKind.u8.wrap ((g.toNat:Int)-48)))),IntKind.i64.wrap (b+1)))))) (some (.out (.go d)))
def di (c:ByteArray) (b:Bool):=cond b (some ((-1))) ((loop (fun s:Int×Int=>gP c s.1 s.2) (0,0)).bind fun r=>Fl.el r (fun s=>gO s) (fun y=>some (y)))
def lf (b:ByteArray):=cond (b.toList==cp.toList) (di b true) (cond (decide ((9:Int)<(b.size:Int))) (di b true) ((bu b.toList 0).bind fun c=>cond (((c.toNat:Int):Int)==48) (di b (!(b.toList==(ByteArray.mk #[48]).toList))) (di b false)))
theorem vO (b:ByteArray) (y:Int) (B:lf b=some y):bg aR No 192 [a8 b] L (fun v w'=>v=aj y):=by
 refine en Tryz.func192 Tryz.ntmps192 hT fun a I=>?_;unfold lf at B;refine am I fun a I=>?_;refine aC ?_;refine aM (J:=fun a w=>∃ (e:Bool),St L No T 46 [(0,a8 b),(20,.bool e)] [] [] a w/\di b e=some y) ?_ ?_
 ·refine am I fun a I=>?_;rcases cd B with⟨m,B⟩|⟨m,B⟩
  ·exact fz
  refine am I fun a I=>?_;rcases cd B with⟨g,B⟩|⟨g,B⟩
  ·exact fz
  refine am I fun a I=>?_;obtain⟨x,l,B⟩:=bd B;refine qg I g (Al I Tryz.underlying9 rfl rfl l) fun a I=>?_;exact fz
 rintro a w ⟨e,I,B⟩;unfold di at B;rcases cd B with⟨n,B⟩|⟨n,B⟩
 ·exact fz
 refine am I fun a I=>?_;refine aM (J:=fun a w=>∃ (f:Int),St L No T 46 [(3,aj f)] [] [] a w/\gO f=some y) ?_ ?_
 ·refine am I fun a I=>?_;obtain⟨A,q,hMo1⟩:=bd B;refine bF _ (fun s a w=>∃ (d c:Int),(d,c)=s/\St L No T 46 [(0,a8 b),(3,aj d),(4,aj c)] [] [] a w) q ⟨_,_,rfl,I.mt [] []⟩ ?_;rintro s a w z ⟨d,c,rfl,I⟩ B hf1;have B:gP b d c=some z:=B;unfold gP at B;refine aC ?_;refine am I fun a I=>?_;rcases cd B with⟨o,B⟩|⟨o,B⟩
  ·refine am I fun a I=>?_;refine aC ?_;refine am I fun a I=>?_;refine aC ?_;refine io ?_;refine am I fun a I=>?_;obtain⟨r,i,B⟩:=bd B;refine qy I (Al I Tryz.underlying9 rfl rfl i) fun a I=>?_;refine am I fun a I=>?_;rcases cd B with⟨h,B⟩|⟨h,B⟩
   ·exact fz
   refine am I fun a I=>?_;obtain⟨t,j,B⟩:=bd B;refine qg I h (Al I Tryz.underlying9 rfl rfl j) fun a I=>?_;refine am I fun a I=>?_;rcases cd B with⟨p,B⟩|⟨p,B⟩
   ·exact fz
   refine am I fun a I=>?_;obtain⟨u,k,B⟩:=bd B;refine qy I (Al I Tryz.underlying9 rfl rfl k) fun a I=>?_;refine am I fun a I=>?_;exact fin
  exact fz
 rintro a w ⟨f,I,B⟩;unfold gO at B;exact fz
def iG (c:Int) (b:Bool):=cond b (some (c)) (some ((-1)))
def iT (c:ae):=(lf c.x).bind fun b=>cond (decide ((30:Int)<=c.v)) (cond (decide (c.v<=32)) (iG b (decide (b<=99))) (iG b false)) (iG b false)
theorem pj (c:ae) (y:Int) (B:iT c=some y):bg aR No 150 [.agg (aX c).toArray] L (fun v w'=>v=aj y):=by
 refine en Tryz.func150 Tryz.ntmps150 hT fun a I=>?_;unfold iT at B;refine kB I fun f g a w O I=>?_;refine am I fun a I=>?_;refine aC ?_;refine am I fun a I=>?_;obtain⟨d,e,B⟩:=bd B;refine kF I Nz (vO _ _ I.dlt c.x _ e) fun w a I=>?_;refine aM (J:=fun a w=>∃ (b:Bool),St L No T 20 [(3,aj d),(18,.bool b)] [] [] a w/\iG d b=some y) ?_ ?_
 ·exact fz
 rintro a w ⟨b,I,B⟩;unfold iG at B;exact fz
def fu (b:Bool):=some (b)
def lR (b:ae) (c:Bool):=cond c ((iT b).bind fun d=>some (decide ((0:Int)<=d))) (cond (decide ((1:Int)<=b.v)) (cond (decide (b.v<=22)) (cond (decide (((b.x.size:Int):Int)<=1073741824)) (cond (b.x.toList==cp.toList) (fu true) (cond (b.v != 1) (fu (b.v != 21)) (fu false))) (fu false)) (fu false)) (fu false))
def dz (b:ae):=cond (decide ((30:Int)<=b.v)) (lR b (decide (b.v<=32))) (lR b false)
theorem jl (b:ae) (y:Bool) (B:dz b=some y):bg aR No 96 [.agg (aX b).toArray] L (fun v w'=>v = .bool y):=by
 refine en Tryz.func96 Tryz.ntmps96 hT fun a I=>?_;unfold dz at B;refine kB I fun e h a w O I=>?_;refine am I fun a I=>?_;refine aC ?_;refine aM (J:=fun a w=>∃ (d:Bool),St L No T 43 [(1,pt e 0),(10,.bool d)] [.box e (aX b) 30] [] a w/\lR b d=some y) ?_ ?_
 ·exact fz
 rintro a w ⟨d,I,B⟩;unfold lR at B;rcases cd B with⟨g,B⟩|⟨g,B⟩
 ·refine am I fun a I=>?_;obtain⟨i,f,B⟩:=bd B;refine kE I H6 (pj _ _ I.dlt b _ f) fun w a I=>?_;exact fz
 refine am I fun a I=>?_;refine aM (J:=fun a w=>∃ (c:Bool),St L No T 43 [(2,.bool c)] [] [] a w/\fu c=some y) ?_ ?_
 ·exact fz
 rintro a w ⟨c,I,B⟩;unfold fu at B;exact fz
def jP (b:Bool):=some (b)
def cu (b:ae):=cond (b.v==1) (jP true) (cond (b.v==2) (jP true) (jP (b.v==30)))
theorem da (c:ae) (y:Bool) (B:cu c=some y):bg aR No 97 [.agg (aX c).toArray] L (fun v w'=>v = .bool y):=by
 refine en Tryz.func97 Tryz.ntmps97 hT fun a I=>?_;unfold cu at B;refine kB I fun d e a w O I=>?_;refine am I fun a I=>?_;refine aM (J:=fun a w=>∃ (b:Bool),St L No T 16 [(2,.bool b)] [] [] a w/\jP b=some y) ?_ ?_
 ·exact fz
 rintro a w ⟨b,I,B⟩;unfold jP at B;exact fz
def jN (b c:ae):=cond (decide (b.v<c.v)) (some ((-1))) (cond (decide (c.v<b.v)) (some (1)) ((r8 b.x c.x).bind fun d=>some (d)))
theorem lQ (hLv:dh T L) (b c:ae) (y:Int) (B:jN b c=some y):bg aR No 99 [.agg (aX b).toArray,.agg (aX c).toArray] L (fun v w'=>v=aj y):=by
 refine en Tryz.func99 Tryz.ntmps99 hT fun a I=>?_;replace I:=I.fact bH (dh.dn hLv);unfold jN at B;refine kB I fun g i a w O I=>?_;refine kb I fun h j a w O I=>?_;refine am I fun a I=>?_;refine aC ?_;refine am I fun a I=>?_;rcases cd B with⟨e,B⟩|⟨e,B⟩
 ·exact fz
 refine am I fun a I=>?_;rcases cd B with⟨f,B⟩|⟨f,B⟩
 ·exact fz
 refine am I fun a I=>?_;obtain⟨k,d,B⟩:=bd B;refine kE I Fr (qR _ _ I.dlt I.g0 b.x c.x _ d) fun w a I=>?_;exact fz
def fU (b:Bool):=some (b)
def rS (b:Int):=cond (b==7) (fU true) (cond (b==14) (fU true) (cond (b==17) (fU true) (fU (b==18))))
theorem BX (c:Int) (y:Bool) (B:rS c=some y):bg aR No 187 [aj c] L (fun v w'=>v = .bool y):=by
 refine en Tryz.func187 Tryz.ntmps187 hT fun a I=>?_;unfold rS at B;refine am I fun a I=>?_;refine aM (J:=fun a w=>∃ (b:Bool),St L No T 17 [(2,.bool b)] [] [] a w/\fU b=some y) ?_ ?_
 ·exact fz
 rintro a w ⟨b,I,B⟩;unfold fU at B;exact fz
def fV (b:Bool):=some (b)
def cO (b:ae):=cond (b.v==32) (fV true) (cond (decide ((1:Int)<=b.v)) (cond (decide (b.v<=22)) ((rS b.v).bind fun c=>fV c) (fV false)) (fV false))
theorem cY (d:ae) (y:Bool) (B:cO d=some y):bg aR No 143 [.agg (aX d).toArray] L (fun v w'=>v = .bool y):=by
 refine en Tryz.func143 Tryz.ntmps143 hT fun a I=>?_;unfold cO at B;refine kB I fun h i a w O I=>?_;refine am I fun a I=>?_;refine aM (J:=fun a w=>∃ (b:Bool),St L No T 21 [(2,.bool b)] [] [] a w/\fV b=some y) ?_ ?_
 ·refine am I fun a I=>?_;rcases cd B with⟨f,B⟩|⟨f,B⟩
  ·exact fz
  refine am I fun a I=>?_;rcases cd B with⟨g,B⟩|⟨g,B⟩
  ·refine am I fun a I=>?_;rcases cd B with⟨c,B⟩|⟨c,B⟩
   ·refine am I fun a I=>?_;obtain⟨j,e,B⟩:=bd B;refine wg I rfl rfl rfl c (bB I Qf rfl rfl (BX _ _ I.dlt d.v _ e) fun _ w C a O U=>?_);obtain rfl:=C;have I:=eL U;exact fz
   exact fz
  exact fz
 rintro a w ⟨b,I,B⟩;unfold fV at B;exact fz
def cP (b:Bool):=some (b)
def lW (b:au):=(dz b.d).bind fun c=>cond c ((cu b.d).bind fun e=>cond (!(e)) (cond (decide (((b.u.size:Int):Int)<=1073741824)) (cond (decide ((b.k.length:Int)<=4000)) (cond (decide ((0:Int)<=b.a)) (cond (decide (b.a<=b.t)) (cond (decide (b.t<=1073741824)) (cond (decide ((1:Int)<=b.j)) (cond (decide (b.j<=1073741824)) (cond (!(b.w)) (cP true) ((cO b.d).bind fun f=>cP f)) (cP false)) (cP false)) (cP false)) (cP false)) (cP false)) (cP false)) (cP false)) (cP false)) (cP false)
def lX (c:au) (b:Int):Option (Fl (Int) (Fl (Unit) Bool)):=cond (decide (b<(c.k.length:Int))) ((bu c.k b).bind fun d=>(dz d).bind fun e=>cond (!(e)) (some (.out (.out false))) (some (.go (IntKind.i64.wrap (b+1))))) (some (.out (.go ())))
def q9 (b:au):=(loop (fun s:Int=>lX b s) 0).bind fun r=>Fl.el r (fun s=>lW b) (fun y=>some (y))
theorem C6 (b:au) (g:Value) (H:aF ad T L g b.k) (y:Bool) (B:q9 b=some y):bg aR No 169 [.agg (bh b g).toArray] L (fun v w'=>v = .bool y):=by
 refine en Tryz.func169 Tryz.ntmps169 hT fun a I=>?_;replace I:=I.fS (aF.dn H);unfold q9 at B;refine kB I fun c Q a w O I=>?_;refine am I fun a I=>?_;refine aM (J:=fun a w=>St L No T 74 [(1,pt c 0)] [.box c (bh b g) 33] [aL ad g b.k] a w/\lW b=some y) ?_ ?_
 ·refine am I fun a I=>?_;obtain⟨r1,G,hMo1⟩:=bd B;refine bF _ (fun s a w=>∃ (e:Int),e=s/\St L No T 74 [(1,pt c 0),(6,g),(7,aj (b.k.length:Int)),(8,aj e)] [.box c (bh b g) 33] [aL ad g b.k] a w) G ⟨_,rfl,I.mt [0] [0]⟩ ?_;rintro s a w P ⟨e,rfl,I⟩ B hf1;have B:lX b e=some P:=B;unfold lX at B;refine am I fun a I=>?_;refine aC ?_;rcases cd B with⟨q,B⟩|⟨q,B⟩
  ·refine am I fun a I=>?_;refine aC ?_;refine am I fun a I=>?_;obtain⟨p,j,B⟩:=bd B;refine wl rfl (bn (R:=ad) I j7 dB rfl rfl 0 rfl j rfl fun K V N r a I=>?_);obtain rfl:=r;refine kA I fH fun M S a w O I=>?_;refine go I fun a w I=>?_;obtain⟨Z,o,B⟩:=bd B;refine kE I He (jl _ _ I.dlt p _ o) fun w a I=>?_;exact fz
  exact fz
 rintro a w ⟨I,B⟩;unfold lW at B;refine aM (J:=fun a w=>∃ (f:Bool),St L No T 74 [(2,.bool f)] [] [] a w/\cP f=some y) ?_ ?_
 ·refine am I fun a I=>?_;obtain⟨W,l,B⟩:=bd B;refine kF I He (jl _ _ I.dlt b.d _ l) fun w a I=>?_;rcases cd B with⟨h,B⟩|⟨h,B⟩
  ·refine am I fun a I=>?_;obtain⟨X,m,B⟩:=bd B;refine wg I rfl rfl rfl h (bB I yx rfl rfl (da _ _ I.dlt b.d _ m) fun _ w C a O U=>?_);obtain rfl:=C;have I:=eL U;refine am I fun a I=>?_;rcases cd B with⟨t,B⟩|⟨t,B⟩
   ·refine am I fun a I=>?_;rcases cd B with⟨u,B⟩|⟨u,B⟩
    ·refine am I fun a I=>?_;rcases cd B with⟨x,B⟩|⟨x,B⟩
     ·refine am I fun a I=>?_;rcases cd B with⟨z,B⟩|⟨z,B⟩
      ·refine am I fun a I=>?_;rcases cd B with⟨A,B⟩|⟨A,B⟩
       ·refine am I fun a I=>?_;rcases cd B with⟨D,B⟩|⟨D,B⟩
        ·refine am I fun a I=>?_;rcases cd B with⟨E,B⟩|⟨E,B⟩
         ·refine am I fun a I=>?_;rcases cd B with⟨F,B⟩|⟨F,B⟩
          ·refine am I fun a I=>?_;rcases cd B with⟨i,B⟩|⟨i,B⟩
           ·exact fz
           refine am I fun a I=>?_;obtain⟨Y,n,B⟩:=bd B;refine wg I rfl rfl rfl i (bB I uf rfl rfl (cY _ _ I.dlt b.d _ n) fun _ w C a O U=>?_);obtain rfl:=C;have I:=eL U;exact fz
          exact fz
         exact fz
        exact fz
       exact fz
      exact fz
     exact fz
    exact fz
   exact fz
  exact fz
 rintro a w ⟨f,I,B⟩;unfold cP at B;exact fz
def oq (b:LR):=some (decide ((b.length:Int)<=4000))
def ef (b:Int) (c:Bool):Option (Fl (Int) (Fl (Unit) Bool)):=cond c (some (.out (.out false))) (some (.go (IntKind.i64.wrap (b+1))))
def ia (e:LR) (b:Int):=cond (decide (b<(e.length:Int))) ((bu e b).bind fun c=>(q9 c).bind fun g=>cond (!(g)) (ef b true) (cond (decide ((0:Int)<b)) ((bu e (IntKind.i64.wrap (b-1))).bind fun f=>(jN f.d c.d).bind fun h=>ef b (decide ((0:Int)<=h))) (ef b false))) (some (.out (.go ())))
def kT (b:LR):=(loop (fun s:Int=>ia b s) 0).bind fun r=>Fl.el r (fun s=>oq b) (fun y=>some (y))
theorem y7 (hLv:dh T L) (b:LR) (e:Value) (F:aF aa T L e b) (y:Bool) (B:kT b=some y):bg aR No 111 [e] L (fun v w'=>v = .bool y):=by
 refine en Tryz.func111 Tryz.ntmps111 hT fun a I=>?_;replace I:=(I.fact bH (dh.dn hLv)).fS (aF.dn F);unfold kT at B;refine am I fun a I=>?_;refine aM (J:=fun a w=>St L No T 35 [(0,e)] [] [aL aa e b,bH] a w/\oq b=some y) ?_ ?_
 ·refine am I fun a I=>?_;obtain⟨X,E,hMo1⟩:=bd B;refine bF _ (fun s a w=>∃ (c:Int),c=s/\St L No T 35 [(0,e),(5,e),(6,aj (b.length:Int)),(7,aj c)] [] [aL aa e b,bH] a w) E ⟨_,rfl,I.mt [] [0,1]⟩ ?_;rintro s a w D ⟨c,rfl,I⟩ B hf1;have B:ia b c=some D:=B;unfold ia at B;refine am I fun a I=>?_;refine aC ?_;rcases cd B with⟨r,B⟩|⟨r,B⟩
  ·refine am I fun a I=>?_;refine aC ?_;refine am I fun a I=>?_;obtain⟨h,j,B⟩:=bd B;refine wl rfl (bn (R:=aa) I mV j6 rfl rfl 0 rfl j rfl fun G P K t a I=>?_);obtain⟨V,rfl,n⟩:=t;replace I:=I.fS n;refine kA I eJ fun H N a w O I=>?_;refine go I fun a w I=>?_;refine aM (J:=fun a w=>∃ (f:Bool),St L No T 35 [(0,e),(5,e),(6,aj (b.length:Int)),(7,aj c),(30,.bool f)] [] [aL aa e b,bH] a w/\ef c f=some D) ?_ ?_
   ·refine dr [] I fun w hQ I=>?_;refine gE [0] I fun a I=>?_;obtain⟨Q,l,B⟩:=bd B;refine ec 1 I P4 (C6 _ _ I.dlt h _ I.g0 _ l) fun _ w C a O U=>?_;obtain rfl:=C;have I:=eL U;refine gE [2,3] I fun a I=>?_;rcases cd B with⟨u,B⟩|⟨u,B⟩
    ·refine gE [4,5,6,7,8,9,10,11,12,13,14,15,16,17,18] I fun a I=>?_;refine eD ?_;exact fin
    refine gE [4,5,6] I fun a I=>?_;rcases cd B with⟨g,B⟩|⟨g,B⟩
    ·refine gE [7,8,9] I fun a I=>?_;obtain⟨q,k,B⟩:=bd B;obtain⟨p,A,M,x,z,I⟩:=lq (R:=aa) I mV j6 2 rfl k;obtain⟨W,rfl,o⟩:=x;replace I:=I.fS o;refine dg 10 I g (v:=pt p A) (z rfl rfl) fun a I=>?_;refine gE [11,12,13,14] I fun a I=>?_;obtain⟨S,m,B⟩:=bd B;refine cR (i:=15) rfl (by kernel_rfl) I rfl rfl rfl g (bB I Hf rfl rfl (lQ _ _ I.dlt I.g5 q.d h.d _ m) fun _ w C a O U=>⟨fq (O),?_⟩);obtain rfl:=C;have I:=eL U;refine gE [16,17,18] I fun a I=>?_;refine eD ?_;exact fin
    refine gE [7,8,9,10,11,12,13,14,15,16,17,18] I fun a I=>?_;refine eD ?_;exact fin
   rintro a w ⟨f,I,B⟩;unfold ef at B;exact fz
  exact fz
 rintro a w ⟨I,B⟩;unfold oq at B;exact fz
def jU (b:Bool):=some (b)
def lZ (b:ah):=cond (decide ((0:Int)<=b.r)) (cond (decide (b.r<=1073741824)) (cond (decide ((b.i.length:Int)<=64)) ((kT b.s).bind fun c=>jU c) (jU false)) (jU false)) (jU false)
def l4 (c:ah) (b:Int):Option (Fl (Int) (Fl (Unit) Bool)):=cond (decide (b<(c.s.length:Int))) ((bu c.s b).bind fun d=>cond (decide (c.r<d.t)) (some (.out (.out false))) (some (.go (IntKind.i64.wrap (b+1))))) (some (.out (.go ())))
def l3 (b:ah):=(loop (fun s:Int=>l4 b s) 0).bind fun r=>Fl.el r (fun s=>lZ b) (fun y=>some (y))
def cZ (b:Int) (c:Bool):Option (Fl (Int) (Fl (Unit) Bool)):=cond c (some (.out (.out false))) (some (.go (IntKind.i64.wrap (b+1))))
def l5 (e:ah) (b:Int):=cond (decide (b<(e.i.length:Int))) ((bu e.i b).bind fun c=>(dz c.d).bind fun g=>cond (!(g)) (cZ b true) ((cu c.d).bind fun h=>cond (!(h)) (cZ b true) (cond (decide ((0:Int)<b)) ((bu e.i (IntKind.i64.wrap (b-1))).bind fun f=>(jN f.d c.d).bind fun j=>cond (decide ((0:Int)<=j)) (cZ b true) (cond (decide ((1073741824:Int)<(c.u.size:Int))) (cZ b true) (cond (decide (c.a<0)) (cZ b true) (cZ b (decide (e.r<c.a)))))) (cond (decide ((1073741824:Int)<(c.u.size:Int))) (cZ b true) (cond (decide (c.a<0)) (cZ b true) (cZ b (decide (e.r<c.a)))))))) (some (.out (.go ())))
def iZ (b:ah):=(loop (fun s:Int=>l5 b s) 0).bind fun r=>Fl.el r (fun s=>l3 b) (fun y=>some (y))
theorem nF (hLv:dh T L) (b:ah) (e g:Value) (a3:aF ac T L e b.i) (a4:aF aa T L g b.s) (y:Bool) (B:iZ b=some y):bg aR No 32 [.agg (aU b e g).toArray] L (fun v w'=>v = .bool y):=by
 refine en Tryz.func32 Tryz.ntmps32 hT fun a I=>?_;replace I:=((I.fact bH (dh.dn hLv)).fS (aF.dn a3)).fS (aF.dn a4);unfold iZ at B;refine kB I fun c b0 a w O I=>?_;refine am I fun a I=>?_;refine aM (J:=fun a w=>St L No T 93 [(1,pt c 0)] [.box c (aU b e g) 25] [aL ac e b.i,aL aa g b.s,bH] a w/\l3 b=some y) ?_ ?_
 ·refine am I fun a I=>?_;obtain⟨r1,p,hMo1⟩:=bd B;refine bF _ (fun s a w=>∃ (f:Int),f=s/\St L No T 93 [(1,pt c 0),(8,e),(9,aj (b.i.length:Int)),(10,aj f)] [.box c (aU b e g) 25] [aL ac e b.i,aL aa g b.s,bH] a w) p ⟨_,rfl,I.mt [0] [1,0,2]⟩ ?_;rintro s a w q ⟨f,rfl,I⟩ B hf1;have B:l5 b f=some q:=B;unfold l5 at B;refine am I fun a I=>?_;refine aC ?_;rcases cd B with⟨H,B⟩|⟨H,B⟩
  ·refine am I fun a I=>?_;refine aC ?_;refine am I fun a I=>?_;obtain⟨j,t,B⟩:=bd B;refine wl rfl (bn (R:=ac) I Dh Di rfl rfl 0 rfl t rfl fun a5 b3 ag K a I=>?_);obtain rfl:=K;refine kA I Ap fun a9 b1 a w O I=>?_;refine go I fun a w I=>?_;refine aM (J:=fun a w=>∃ (l:Bool),St L No T 93 [(1,pt c 0),(8,e),(9,aj (b.i.length:Int)),(10,aj f),(59,.bool l)] [.box c (aU b e g) 25] [aL ac e b.i,aL aa g b.s,bH] a w/\cZ f l=some q) ?_ ?_
   ·refine dr [] I fun w hQ I=>?_;refine gE [0,1] I fun a I=>?_;obtain⟨b7,z,B⟩:=bd B;refine ec 2 I He (jl _ _ I.dlt j.d _ z) fun _ w C a O U=>?_;obtain rfl:=C;have I:=eL U;refine gE [3,4] I fun a I=>?_;rcases cd B with⟨n,B⟩|⟨n,B⟩
    ·refine gE [5,6,7,8,9,10,11,12,13,14,15,16,17,18,19,20,21,22,23,24,25,26,27,28,29,30,31,32,33,34,35,36,37,38,39,40,41,42,43,44] I fun a I=>?_;refine eD ?_;exact fin
    refine gE [5,6] I fun a I=>?_;obtain⟨b8,A,B⟩:=bd B;refine cR (i:=7) rfl (by kernel_rfl) I rfl rfl rfl n (bB I yx rfl rfl (da _ _ I.dlt j.d _ A) fun _ w C a O U=>⟨fq (O),?_⟩);obtain rfl:=C;have I:=eL U;refine gE [8,9,10] I fun a I=>?_;rcases cd B with⟨M,B⟩|⟨M,B⟩
    ·refine gE [11,12,13,14,15,16,17,18,19,20,21,22,23,24,25,26,27,28,29,30,31,32,33,34,35,36,37,38,39,40,41,42,43,44] I fun a I=>?_;refine eD ?_;exact fin
    refine gE [11,12,13] I fun a I=>?_;rcases cd B with⟨m,B⟩|⟨m,B⟩
    ·refine gE [14,15,16,17] I fun a I=>?_;obtain⟨G,u,B⟩:=bd B;obtain⟨F,a2,ak,N,P,I⟩:=lq (R:=ac) I Dh Di 1 rfl u;obtain rfl:=N;refine dg 18 I m (v:=pt F a2) (P rfl rfl) fun a I=>?_;refine gE [19,20,21,22] I fun a I=>?_;obtain⟨b9,D,B⟩:=bd B;refine cR (i:=23) rfl (by kernel_rfl) I rfl rfl rfl m (bB I Hf rfl rfl (lQ _ _ I.dlt I.g4 G.d j.d _ D) fun _ w C a O U=>⟨fq (O),?_⟩);obtain rfl:=C;have I:=eL U;refine gE [24,25,26,27] I fun a I=>?_;rcases cd B with⟨Q,B⟩|⟨Q,B⟩
     ·refine gE [28,29,30,31,32,33,34,35,36,37,38,39,40,41,42,43,44] I fun a I=>?_;refine eD ?_;exact fin
     refine gE [28,29,30,31,32,33] I fun a I=>?_;rcases cd B with⟨S,B⟩|⟨S,B⟩
     ·refine gE [34,35,36,37,38,39,40,41,42,43,44] I fun a I=>?_;refine eD ?_;exact fin
     refine gE [34,35,36,37,38] I fun a I=>?_;rcases cd B with⟨V,B⟩|⟨V,B⟩
     ·refine gE [39,40,41,42,43,44] I fun a I=>?_;refine eD ?_;exact fin
     refine gE [39,40,41,42,43,44] I fun a I=>?_;refine eD ?_;exact fin
    refine gE [14,15,16,17,18,19,20,21,22,23,24,25,26,27,28,29,30,31,32,33] I fun a I=>?_;rcases cd B with⟨W,B⟩|⟨W,B⟩
    ·refine gE [34,35,36,37,38,39,40,41,42,43,44] I fun a I=>?_;refine eD ?_;exact fin
    refine gE [34,35,36,37,38] I fun a I=>?_;rcases cd B with⟨X,B⟩|⟨X,B⟩
    ·refine gE [39,40,41,42,43,44] I fun a I=>?_;refine eD ?_;exact fin
    refine gE [39,40,41,42,43,44] I fun a I=>?_;refine eD ?_;exact fin
   rintro a w ⟨l,I,B⟩;unfold cZ at B;exact fz
  exact fz
 rintro a w ⟨I,B⟩;unfold l3 at B;refine aM (J:=fun a w=>St L No T 93 [(1,pt c 0)] [.box c (aU b e g) 25] [aL ac e b.i,aL aa g b.s,bH] a w/\lZ b=some y) ?_ ?_
 ·refine am I fun a I=>?_;obtain⟨r1,p,hMo1⟩:=bd B;refine bF _ (fun s a w=>∃ (h:Int),h=s/\St L No T 93 [(1,pt c 0),(62,g),(63,aj (b.s.length:Int)),(64,aj h)] [.box c (aU b e g) 25] [aL aa g b.s,aL ac e b.i,bH] a w) p ⟨_,rfl,I.mt [0] [1,0,2]⟩ ?_;rintro s a w q ⟨h,rfl,I⟩ B hf1;have B:l4 b h=some q:=B;unfold l4 at B;refine am I fun a I=>?_;refine aC ?_;rcases cd B with⟨Y,B⟩|⟨Y,B⟩
  ·refine am I fun a I=>?_;refine aC ?_;refine am I fun a I=>?_;obtain⟨av,r,B⟩:=bd B;refine wl rfl (bn (R:=aa) I mV j6 rfl rfl 0 rfl r rfl fun ab b4 ao Z a I=>?_);obtain⟨bb,rfl,E⟩:=Z;replace I:=I.fS E;refine kA I eJ fun af b2 a w O I=>?_;exact fz
  exact fz
 rintro a w ⟨I,B⟩;unfold lZ at B;refine aM (J:=fun a w=>∃ (k:Bool),St L No T 93 [(2,.bool k)] [] [bH] a w/\jU k=some y) ?_ ?_
 ·refine am I fun a I=>?_;rcases cd B with⟨a0,B⟩|⟨a0,B⟩
  ·refine am I fun a I=>?_;rcases cd B with⟨a1,B⟩|⟨a1,B⟩
   ·refine am I fun a I=>?_;rcases cd B with⟨o,B⟩|⟨o,B⟩
    ·refine am I fun a I=>?_;obtain⟨b6,x,B⟩:=bd B;refine wg I rfl rfl rfl o (bB I PB rfl rfl (y7 _ _ I.dlt I.g2 b.s _ I.g1 _ x) fun _ w C a O U=>?_);obtain rfl:=C;have I:=eL U;exact fz
    exact fz
   exact fz
  exact fz
 rintro a w ⟨k,I,B⟩;unfold jU at B;exact fz
def tS (b:ae):=some ((a7.mk b cp 0))
def gF (e:ah) (f:ae) (c:Int):Option (Fl (Int) (Fl (Unit) a7)):=cond (decide (c<(e.i.length:Int))) ((bu e.i c).bind fun b=>cond (b.d.v==f.v&&b.d.x.toList==f.x.toList) (some (.out (.out b))) (some (.go (IntKind.i64.wrap (c+1))))) (some (.out (.go ())))
def qi (c:ah) (b:ae):=(loop (fun s:Int=>gF c b s) 0).bind fun r=>Fl.el r (fun s=>tS b) (fun y=>some (y))
theorem y8 (c:ah) (b:ae) (k r:Value) (p:aF ac T L k c.i) (q:aF aa T L r c.s) (y:a7) (B:qi c b=some y):bg aR No 151 [.agg (aU c k r).toArray,.agg (aX b).toArray] L (fun v w'=>v = .agg (tK y).toArray):=by
 refine en Tryz.func151 Tryz.ntmps151 hT fun a I=>?_;replace I:=(I.fS (aF.dn p)).fS (aF.dn q);unfold qi at B;refine kB I fun t E a w O I=>?_;refine kb I fun e F a w O I=>?_;refine ka I Ap fun f G a w O I=>?_;refine am I fun a I=>?_;refine aM (J:=fun a w=>St L No T 22 [(3,pt e 0),(4,pt f 0)] [.box e (aX b) 30,.box f [aj 0,a8 cp,a8 cp,aj 0] 91] [] a w/\tS b=some y) ?_ ?_
 ·refine am I fun a I=>?_;obtain⟨M,o,hMo1⟩:=bd B;refine bF _ (fun s a w=>∃ (g:Int),g=s/\St L No T 22 [(3,pt e 0),(4,pt f 0),(8,k),(9,aj (c.i.length:Int)),(10,aj g)] [.box e (aX b) 30,.box f [aj 0,a8 cp,a8 cp,aj 0] 91] [aL ac k c.i] a w) o ⟨_,rfl,I.mt [1,0] [1]⟩ ?_;rintro s a w D ⟨g,rfl,I⟩ B hf1;have B:gF c b g=some D:=B;unfold gF at B;refine am I fun a I=>?_;refine aC ?_;rcases cd B with⟨l,B⟩|⟨l,B⟩
  ·refine am I fun a I=>?_;refine aC ?_;refine am I fun a I=>?_;obtain⟨h,j,B⟩:=bd B;refine wl rfl (bn (R:=ac) I Dh Di rfl rfl 0 rfl j rfl fun u K A m a I=>?_);obtain rfl:=m;refine kA I Ap fun z H a w O I=>?_;refine go I fun a w I=>?_;refine wl rfl (ky (v:=.bool (h.d.v==b.v&&h.d.x.toList==b.x.toList)) I (CZ I rfl rfl) rfl rfl fun a I=>?_);refine am I fun a I=>?_;rcases cd B with⟨n,B⟩|⟨n,B⟩
   ·refine go I fun a w I=>?_;cases B
    have hr:=hf1 _ rfl;subst hr;replace hMo1:=iE hMo1;have B:=hMo1;cases B
    refine aG I rfl (rC 2 I) ?_;exact rfl
   exact fz
  exact fz
 rintro a w ⟨I,B⟩;unfold tS at B;refine am I fun a I=>?_;refine qy I (bw (ps:=[(0,.tmp 20)]) I ML Ap rfl (us:=[(aX b)]) ⟨rfl,trivial⟩ (ws:=[aj b.v,a8 b.x,a8 cp,aj 0]) rfl) fun a I=>?_;refine go I fun a w I=>?_;cases B
 refine aG I rfl (rC 1 I) ?_;exact rfl
def oL (c:ah) (d:ae):=(qi c d).bind fun b=>some (b.u)
theorem tA (b:ah) (c:ae) (g h:Value) (e:aF ac T L g b.i) (f:aF aa T L h b.s) (y:ByteArray) (B:oL b c=some y):bg aR No 98 [.agg (aU b g h).toArray,.agg (aX c).toArray] L (fun v w'=>v=a8 y):=by
 refine en Tryz.func98 Tryz.ntmps98 hT fun a I=>?_;replace I:=(I.fS (aF.dn e)).fS (aF.dn f);unfold oL at B;refine kB I fun j l a w O I=>?_;refine kb I fun k m a w O I=>?_;refine am I fun a I=>?_;obtain⟨n,d,B⟩:=bd B;refine kE I Nq (y8 _ _ I.dlt b c _ _ I.g1 I.g0 _ d) fun w a I=>?_;refine qy I (Cu I rfl Tryz.underlying91 rfl rfl MV rfl rfl (fun _=>rfl)) fun a I=>?_;exact fz
def jT (b c:ah) (e:Bool) (d:LI):Option (ah×Int):=cond (!(e)) (some ((b,0))) (cond (decide ((64:Int)<(d.length:Int))) (some ((b,45))) (cond (decide ((1073741824:Int)<(IntKind.i64.wrap (c.r+1)))) (some ((b,3))) (some (((ah.mk (IntKind.i64.wrap (c.r+1)) d c.s),0)))))
def ic (c:Int) (b:Bool) (d:LI):Option (Fl (Bool×Int×LI) (Bool×LI)):=some (.go (b,IntKind.i64.wrap (c+1),d))
def ey (b:Int) (c:LI):=ic b true c
def ez (f:ah) (e:Int) (b:bU) (c:LI) (g:Bool):=cond (!(g)) (gd (bP (c.length+([(a7.mk b.d b.u (IntKind.i64.wrap (f.r+1)))]).length)) <| ey e (c++([(a7.mk b.d b.u (IntKind.i64.wrap (f.r+1)))]))) (ey e c)
def fy (b:Int) (c:LI) (d:Bool):Option (Fl (LI×Bool×Int) (LI×Bool)):=some (.go (c,d,IntKind.i64.wrap (b+1)))
def fA (d:Int) (c:a7) (f:Int) (b:LI) (e:Bool):=cond (f != 0) (gd (bP (b.length+([c]).length)) <| fy d (b++([c])) e) (fy d b e)
def fB (g:ah) (b:bU) (c:LI) (j:Bool) (f:Int) (e:a7) (h:Int) (i:Bool):=cond i (gd (bP (c.length+([(a7.mk b.d b.u (IntKind.i64.wrap (g.r+1)))]).length)) <| fA f e h (c++([(a7.mk b.d b.u (IntKind.i64.wrap (g.r+1)))])) true) (fA f e h c j)
def fC (j:ah) (i:LI) (e:bU) (g:LI) (c:Bool) (b:Int):=cond (decide (b<(i.length:Int))) ((bu i b).bind fun f=>(jN f.d e.d).bind fun h=>cond (decide ((0:Int)<=h)) (fB j e g c b f h (!(c))) (fB j e g c b f h false)) (some (.out (g,c)))
def lY (i g:ah) (f:Bool) (c:Int) (e:LI) (b:bU) (h:Bool):=cond (!(h)) (ic c f e) ((oL i b.d).bind fun j=>cond (j.toList==b.u.toList) (ic c f e) ((loop (fun s:LI×Bool×Int=>fC g e b s.1 s.2.1 s.2.2) (([]:List a7),false,0)).bind fun r=>ez g c b r.1 r.2))
def kU (c:bU) (f:LC) (g:Bool) (b:Int):Option (Fl (Bool×Int) (Bool)):=cond (decide (b<(f.length:Int))) ((bu f b).bind fun e=>cond g (some (.go (!(e.d.v==c.d.v&&e.d.x.toList==c.d.x.toList),IntKind.i64.wrap (b+1)))) (some (.go (false,IntKind.i64.wrap (b+1))))) (some (.out g))
def eQ (c:LC) (h i:ah) (d:Bool) (b:Int) (f:LI):=cond (decide (b<(c.length:Int))) ((bu c b).bind fun e=>(pU c (IntKind.i64.wrap (b+1)) c.length).bind fun g=>(loop (fun s:Bool×Int=>kU e g s.1 s.2) (true,0)).bind fun r=>lY h i d b f e r) (some (.out (d,f)))
def fX (d:LC) (b:ah):=(fg b).bind fun c=>(loop (fun s:Bool×Int×LI=>eQ d b c s.1 s.2.1 s.2.2) (false,0,c.i)).bind fun r=>jT b c r.1 r.2
def fZ (c:LC) (e:ah) (b:Int):Option (Fl (Int) (Fl (Unit) (ah×Int))):=cond (decide (b<(c.length:Int))) ((bu c b).bind fun d=>cond (decide ((1073741824:Int)<(d.u.size:Int))) (some (.out (.out (e,3)))) (some (.go (IntKind.i64.wrap (b+1))))) (some (.out (.go ())))
def fY (c:LC) (b:ah):=(loop (fun s:Int=>fZ c b s) 0).bind fun r=>Fl.el r (fun s=>fX c b) (fun y=>some (y))
def f0 (f:LC) (e:ah) (b:Int):Option (Fl (Int) (Fl (Unit) (ah×Int))):=cond (decide (b<(f.length:Int))) ((bu f b).bind fun c=>(dz c.d).bind fun g=>cond (!(g)) (some (.out (.out (e,40)))) ((cu c.d).bind fun h=>cond (!(h)) (some (.out (.out (e,40)))) (some (.go (IntKind.i64.wrap (b+1)))))) (some (.out (.go ())))
def eP (e:ah) (c:LC):=(fg e).bind fun b=>(iZ b).bind fun d=>cond (!(d)) (some ((b,42))) (cond (decide ((32:Int)<(c.length:Int))) (some ((b,3))) ((loop (fun s:Int=>f0 c b s) 0).bind fun r=>Fl.el r (fun s=>fY c b) (fun y=>some (y))))
theorem nE (hLv:dh T L) (a9:ah) (m:LC) (v1 v2 p:Value) (fM:aF ac T L v1 a9.i) (g3:aF aa T L v2 a9.s) (g4:aF br T L p m) (y:ah×Int) (B:eP a9 m=some y):bg aR No 29 [.agg (aU a9 v1 v2).toArray,p] L (fun v w'=>∃ (v4:Value) (Ei:bI) (v6:Value) (Bb:bI),v = .tuple #[.agg (aU y.1 v4 v6).toArray,aj y.2]/\gG ac T L w' [be v4 Ei,aJ v6 Bb] 91 v4 Ei y.1.i/\gG aa T L w' [be v4 Ei,aJ v6 Bb] 33 v6 Bb y.1.s/\(∀ k,v4.ownBlock=some k->v6.ownBlock≠some k)):=by
 refine en Tryz.func29 Tryz.ntmps29 hT fun a I=>?_;replace I:=(((I.fact bH (dh.dn hLv)).fS (aF.dn fM)).fS (aF.dn g3)).fS (aF.dn g4);unfold eP at B;refine kB I fun n hh a w O I=>?_;refine ka I mw fun o hi a w O I=>?_;refine am I fun a I=>?_;obtain⟨b,dc,B⟩:=bd B;refine kc I Bq (eA _ _ I.dlt a9 _ _ I.g2 I.g1 _ dc) fun _ w C a O U=>?_;obtain⟨e,j,f,l,he,ck,cl,ch⟩:=C;obtain rfl:=he.symm;have I:=Ar U ck cl ch;refine go I fun a w I=>?_;refine aC ?_;refine am I fun a I=>?_;have hL:=I;replace hL:=hL.zf (R:=ac) 0 rfl 1 rfl;replace hL:=hL.zf (R:=aa) 0 rfl 1 rfl;obtain⟨hA,e3,B⟩:=bd B;refine kF I Ke (nF _ _ hL.dlt hL.g7 b _ _ hL.g1 hL.g0 _ e3) fun w a I=>?_;rcases cd B with⟨e4,B⟩|⟨e4,B⟩
 ·refine go I fun a w I=>?_;cases B
  refine aG I Tryz.results29 (bC I rfl 2 rfl f9 rfl (fun h=>by cases h) (aw I rfl aI)) ?_;exact⟨e,j,f,l,rfl,I.zo ⟨.inr (aO (i:=0) rfl),⟨.inr (aO (i:=1) rfl),trivial⟩⟩ 0 rfl 1 rfl,I.zo ⟨.inr (aO (i:=0) rfl),⟨.inr (aO (i:=1) rfl),trivial⟩⟩ 1 rfl 0 rfl,(I.zp 0 rfl 1 rfl (by decide))⟩
 refine am I fun a I=>?_;rcases cd B with⟨e5,B⟩|⟨e5,B⟩
 ·refine go I fun a w I=>?_;cases B
  refine aG I Tryz.results29 (bC I rfl 2 rfl f9 rfl (fun h=>by cases h) (aw I rfl aI)) ?_;exact⟨e,j,f,l,rfl,I.zo ⟨.inr (aO (i:=0) rfl),⟨.inr (aO (i:=1) rfl),trivial⟩⟩ 0 rfl 1 rfl,I.zo ⟨.inr (aO (i:=0) rfl),⟨.inr (aO (i:=1) rfl),trivial⟩⟩ 1 rfl 0 rfl,(I.zp 0 rfl 1 rfl (by decide))⟩
 refine am I fun a I=>?_;refine aM (J:=fun a w=>St L No T 172 [(1,p),(2,pt n 0),(4,pt o 0)] [be e j,aJ f l,.box n (aU b e f) 25,.box o [aj 0,.slice none 0 0,.slice none 0 0] 25] [aL br p m,ap ac j b.i,ap aa l b.s,bH] a w/\fY m b=some y) ?_ ?_
 ·refine am I fun a I=>?_;obtain⟨r1,ab,hMo1⟩:=bd B;refine bF _ (fun s a w=>∃ (a0:Int),a0=s/\St L No T 172 [(1,p),(2,pt n 0),(4,pt o 0),(34,p),(35,aj (m.length:Int)),(36,aj a0)] [be e j,aJ f l,.box n (aU b e f) 25,.box o [aj 0,.slice none 0 0,.slice none 0 0] 25] [aL br p m,ap ac j b.i,ap aa l b.s,bH] a w) ab ⟨_,rfl,I.mt [0,1,3,2] [2,1,0,5]⟩ ?_;rintro s a w V ⟨a0,rfl,I⟩ B hf1;have B:f0 m b a0=some V:=B;unfold f0 at B;refine am I fun a I=>?_;refine aC ?_;rcases cd B with⟨e6,B⟩|⟨e6,B⟩
  ·refine am I fun a I=>?_;refine aC ?_;refine am I fun a I=>?_;obtain⟨c5,d8,B⟩:=bd B;refine wl rfl (bn (R:=br) I Jz DX rfl rfl 0 rfl d8 rfl fun gb hp h6 e8 a I=>?_);obtain rfl:=e8;refine kA I zC fun gi hj a w O I=>?_;refine go I fun a w I=>?_;refine io ?_;refine am I fun a I=>?_;obtain⟨hy,e0,B⟩:=bd B;refine kF I He (jl _ _ I.dlt c5.d _ e0) fun w a I=>?_;rcases cd B with⟨c9,B⟩|⟨c9,B⟩
   ·refine go I fun a w I=>?_;cases B
    have hr:=hf1 _ rfl;subst hr;replace hMo1:=iE hMo1;have B:=hMo1;cases B
    refine aG I Tryz.results29 (bC I rfl 4 rfl f9 rfl (fun h=>by cases h) (aw I rfl aI)) ?_;exact⟨e,j,f,l,rfl,I.zo ⟨.inr (aO (i:=1) rfl),⟨.inr (aO (i:=2) rfl),trivial⟩⟩ 1 rfl 2 rfl,I.zo ⟨.inr (aO (i:=1) rfl),⟨.inr (aO (i:=2) rfl),trivial⟩⟩ 2 rfl 3 rfl,(I.zp 1 rfl 2 rfl (by decide))⟩
   refine am I fun a I=>?_;obtain⟨hz,e2,B⟩:=bd B;refine wg I rfl rfl rfl c9 (bB I yx rfl rfl (da _ _ I.dlt c5.d _ e2) fun _ w C a O U=>?_);obtain rfl:=C;have I:=eL U;refine am I fun a I=>?_;rcases cd B with⟨ea,B⟩|⟨ea,B⟩
   ·refine go I fun a w I=>?_;cases B
    have hr:=hf1 _ rfl;subst hr;replace hMo1:=iE hMo1;have B:=hMo1;cases B
    refine aG I Tryz.results29 (bC I rfl 4 rfl f9 rfl (fun h=>by cases h) (aw I rfl aI)) ?_;exact⟨e,j,f,l,rfl,I.zo ⟨.inr (aO (i:=1) rfl),⟨.inr (aO (i:=2) rfl),trivial⟩⟩ 1 rfl 2 rfl,I.zo ⟨.inr (aO (i:=1) rfl),⟨.inr (aO (i:=2) rfl),trivial⟩⟩ 2 rfl 3 rfl,(I.zp 1 rfl 2 rfl (by decide))⟩
   exact fz
  exact fz
 rintro a w ⟨I,B⟩;unfold fY at B;refine aM (J:=fun a w=>St L No T 172 [(1,p),(2,pt n 0),(4,pt o 0)] [be e j,aJ f l,.box n (aU b e f) 25,.box o [aj 0,.slice none 0 0,.slice none 0 0] 25] [aL br p m,ap ac j b.i,ap aa l b.s,bH] a w/\fX m b=some y) ?_ ?_
 ·refine am I fun a I=>?_;obtain⟨r1,ab,hMo1⟩:=bd B;refine bF _ (fun s a w=>∃ (Z:Int),Z=s/\St L No T 172 [(1,p),(2,pt n 0),(4,pt o 0),(52,p),(53,aj (m.length:Int)),(54,aj Z)] [be e j,aJ f l,.box n (aU b e f) 25,.box o [aj 0,.slice none 0 0,.slice none 0 0] 25] [aL br p m,ap ac j b.i,ap aa l b.s,bH] a w) ab ⟨_,rfl,I.mt [0,1,2,3] [0,1,2,3]⟩ ?_;rintro s a w V ⟨Z,rfl,I⟩ B hf1;have B:fZ m b Z=some V:=B;unfold fZ at B;refine am I fun a I=>?_;refine aC ?_;rcases cd B with⟨ed,B⟩|⟨ed,B⟩
  ·refine am I fun a I=>?_;refine aC ?_;refine am I fun a I=>?_;obtain⟨hg,d7,B⟩:=bd B;refine wl rfl (bn (R:=br) I Jz DX rfl rfl 0 rfl d7 rfl fun gs hq h7 eg a I=>?_);obtain rfl:=eg;refine kA I zC fun gu hk a w O I=>?_;refine go I fun a w I=>?_;rcases cd B with⟨ei,B⟩|⟨ei,B⟩
   ·refine go I fun a w I=>?_;cases B
    have hr:=hf1 _ rfl;subst hr;replace hMo1:=iE hMo1;have B:=hMo1;cases B
    refine aG I Tryz.results29 (bC I rfl 4 rfl f9 rfl (fun h=>by cases h) (aw I rfl aI)) ?_;exact⟨e,j,f,l,rfl,I.zo ⟨.inr (aO (i:=1) rfl),⟨.inr (aO (i:=2) rfl),trivial⟩⟩ 1 rfl 2 rfl,I.zo ⟨.inr (aO (i:=1) rfl),⟨.inr (aO (i:=2) rfl),trivial⟩⟩ 2 rfl 3 rfl,(I.zp 1 rfl 2 rfl (by decide))⟩
   exact fz
  exact fz
 rintro a w ⟨I,B⟩;unfold fX at B;refine am I fun a I=>?_;have hZ:=I;replace I:=(I.zf (R:=ac) 0 rfl 1 rfl).zf (R:=aa) 0 rfl 3 rfl;have hY:St L No T 172 [] ([be e j,aJ f l]++[.box n (aU b e f) 25,.box o [aj 0,.slice none 0 0,.slice none 0 0] 25]) [aL br p m,ap ac j b.i,ap aa l b.s,bH] _ _:=hZ.meet [0,1,2,3] (by decide) trivial ⟨rfl,rfl,rfl,rfl,trivial⟩ ⟨⟨0,rfl⟩,⟨1,rfl⟩,⟨2,rfl⟩,⟨3,rfl⟩,trivial⟩;replace I:=I.snap hY;obtain⟨g,dk,B⟩:=bd B;refine kc I Bq (eA _ _ I.dlt b _ _ I.g2 I.g1 _ dk) fun _ w C a O U=>?_;obtain⟨hB,h8,t,q,he,cs,cv,ch⟩:=C;obtain rfl:=he.symm;have I:=Ar U cs cv ch;refine ka I mw fun A hl a w O I=>?_;refine go I fun a w I=>?_;refine aM (J:=fun a w=>∃ (af:Bool) (b7:LI) (a5:Value) (X:LV),St L No T 172 [(2,pt n 0),(4,pt o 0),(10,pt A 0),(11,.bool af)] [.box n (aU b e f) 25,.box o [aj 0,.slice none 0 0,.slice none 0 0] 25,be a5 X,aJ t q,.box A [aj (IntKind.i64.wrap (g.r+1)),a5,t] 25] [aL ac e b.i,aL aa f b.s,ap ac X b7,ap aa q g.s,bH,qN L No [be e j,aJ f l] [aL br p m,ap ac j b.i,ap aa l b.s,bH]] a w/\jT b g af b7=some y) ?_ ?_
 ·refine am I fun a I=>?_;obtain⟨r1,ab,hMo1⟩:=bd B;refine bF _ (fun s a w=>∃ (M:Bool) (F:Int) (E:LI) (z:Value) (D:LV),(M,F,E)=s/\St L No T 172 [(1,p),(2,pt n 0),(4,pt o 0),(10,pt A 0),(11,.bool M),(70,p),(71,aj (m.length:Int)),(72,aj F)] [.box n (aU b e f) 25,.box o [aj 0,.slice none 0 0,.slice none 0 0] 25,be z D,aJ t q,.box A [aj (IntKind.i64.wrap (g.r+1)),z,t] 25] [aL br p m,aL ac e b.i,aL aa f b.s,ap ac D E,ap aa q g.s,bH,qN L No [be e j,aJ f l] [aL br p m,ap ac j b.i,ap aa l b.s,bH]] a w) ab ⟨_,_,_,_,_,rfl,I.mt [3,4,1,2,0] [5,4,3,1,0,8,2]⟩ ?_;rintro s a w V ⟨M,F,E,z,D,rfl,I⟩ B hf1;have B:eQ m b g M F E=some V:=B;unfold eQ at B;refine am I fun a I=>?_;refine aC ?_;rcases cd B with⟨el,B⟩|⟨el,B⟩
  ·refine am I fun a I=>?_;refine aM (J:=fun a w=>∃ (ag:Bool) (b8:LI) (bl:Value) (ak:LV),St L No T 172 [(1,p),(2,pt n 0),(4,pt o 0),(10,pt A 0),(11,.bool ag),(70,p),(71,aj (m.length:Int)),(72,aj F)] [.box n (aU b e f) 25,.box o [aj 0,.slice none 0 0,.slice none 0 0] 25,be bl ak,aJ t q,.box A [aj (IntKind.i64.wrap (g.r+1)),bl,t] 25] [aL br p m,aL ac e b.i,aL aa f b.s,ap ac ak b8,ap aa q g.s,bH,qN L No [be e j,aJ f l] [aL br p m,ap ac j b.i,ap aa l b.s,bH]] a w/\ic F ag b8=some V) ?_ ?_
   ·refine am I fun a I=>?_;obtain⟨c,d4,B⟩:=bd B;refine wl rfl (bn (R:=br) I Jz DX rfl rfl 0 rfl d4 rfl fun gH hs h9 eq a I=>?_);obtain rfl:=eq;refine kA I zC fun G hm a w O I=>?_;refine go I fun a w I=>?_;refine aM (J:=fun a w=>∃ (b5:Bool),St L No T 172 [(1,p),(2,pt n 0),(4,pt o 0),(10,pt A 0),(11,.bool M),(13,pt G 0),(14,.bool b5),(70,p),(71,aj (m.length:Int)),(72,aj F)] [.box n (aU b e f) 25,.box o [aj 0,.slice none 0 0,.slice none 0 0] 25,be z D,aJ t q,.box A [aj (IntKind.i64.wrap (g.r+1)),z,t] 25,.box G (oT c) 153] [aL br p m,aL ac e b.i,aL aa f b.s,ap ac D E,ap aa q g.s,bH,qN L No [be e j,aJ f l] [aL br p m,ap ac j b.i,ap aa l b.s,bH]] a w/\lY b g M F E c b5=some V) ?_ ?_
    ·refine am I fun a I=>?_;obtain⟨b6,d9,B⟩:=bd B;refine wl rfl (QU (R:=br) (k2:=.i64) I Jz DX rfl (.inl ⟨_,rfl,rfl⟩) (.inr ⟨rfl,rfl⟩) 1 rfl d9 rfl fun d1 a I=>?_);refine am I fun a I=>?_;obtain⟨r2,d0,hMo2⟩:=bd B;refine bF _ (fun s a w=>∃ (a3:Bool) (Y:Int),(a3,Y)=s/\St L No T 172 [(1,p),(2,pt n 0),(4,pt o 0),(10,pt A 0),(11,.bool M),(13,pt G 0),(14,.bool a3),(70,p),(71,aj (m.length:Int)),(72,aj F),(80,d1),(81,aj (b6.length:Int)),(82,aj Y)] [.box n (aU b e f) 25,.box o [aj 0,.slice none 0 0,.slice none 0 0] 25,be z D,aJ t q,.box A [aj (IntKind.i64.wrap (g.r+1)),z,t] 25,.box G (oT c) 153] [aL br p m,aL br d1 b6,aL ac e b.i,aL aa f b.s,ap ac D E,ap aa q g.s,bH,qN L No [be e j,aJ f l] [aL br p m,ap ac j b.i,ap aa l b.s,bH]] a w) d0 ⟨_,_,rfl,I.mt [1,2,3,4,5,0] [2,0,3,4,5,6,7,8]⟩ ?_;rintro s a w f2 ⟨a3,Y,rfl,I⟩ B hf2;have B:kU c b6 a3 Y=some f2:=B;unfold kU at B;refine am I fun a I=>?_;refine aC ?_;rcases cd B with⟨er,B⟩|⟨er,B⟩
     ·refine am I fun a I=>?_;refine aC ?_;refine am I fun a I=>?_;obtain⟨c4,d6,B⟩:=bd B;refine wl rfl (bn (R:=br) I Jz DX rfl rfl 1 rfl d6 rfl fun h0 ht ha et a I=>?_);obtain rfl:=et;refine kA I zC fun h1 hn a w O I=>?_;refine go I fun a w I=>?_;rcases cd B with⟨ca,B⟩|⟨ca,B⟩
      ·refine am I fun a I=>?_;refine wg I rfl rfl rfl ca (ky (v:=.bool (!(c4.d.v==c.d.v&&c4.d.x.toList==c.d.x.toList))) I (BD I rfl rfl) rfl rfl fun a I=>?_);exact fz
      exact fz
     exact fz
    rintro a w ⟨b5,I,B⟩;unfold lY at B;refine aC ?_;refine aC ?_;refine dr [] I fun w hQ I=>?_;refine gE [0,1,2] I fun a I=>?_;rcases cd B with⟨cb,B⟩|⟨cb,B⟩
    ·refine gE [3,4,5,6,7,8,9,10] I fun a I=>?_;refine eD ?_;exact fz
    refine gE [3,4,5,7,8] I fun a I=>?_;obtain⟨hx,ds,B⟩:=bd B;refine cR (i:=6) rfl (by kernel_rfl) I rfl rfl rfl cb (bB I Mm rfl rfl (tA _ _ I.dlt b c.d _ _ I.g1 I.g2 _ ds) fun _ w C a O U=>⟨fq (O),?_⟩);obtain rfl:=C;have I:=eL U;refine gE [9,10] I fun a I=>?_;refine eD ?_;refine am I fun a I=>?_;rcases cd B with⟨ex,B⟩|⟨ex,B⟩
    ·exact fz
    refine am I fun a I=>?_;refine aM (J:=fun a w=>∃ (a1:LI) (b9:Bool) (bs:Value) (ao:LV),St L No T 172 [(1,p),(2,pt n 0),(4,pt o 0),(10,pt A 0),(11,.bool true),(13,pt G 0),(17,bs),(18,.bool b9),(70,p),(71,aj (m.length:Int)),(72,aj F)] [be bs ao,.box n (aU b e f) 25,.box o [aj 0,.slice none 0 0,.slice none 0 0] 25,be z D,aJ t q,.box A [aj (IntKind.i64.wrap (g.r+1)),z,t] 25,.box G (oT c) 153] [aL br p m,ap ac ao a1,aL ac e b.i,aL aa f b.s,ap ac D E,ap aa q g.s,bH,qN L No [be e j,aJ f l] [aL br p m,ap ac j b.i,ap aa l b.s,bH]] a w/\ez g F c a1 b9=some V) ?_ ?_
    ·refine am I fun a I=>?_;replace I:=I.zn ac 91 (by decide);obtain⟨r2,d0,hMo2⟩:=bd B;refine bF _ (fun s a w=>∃ (N:LI) (P:Bool) (K:Int) (S:Value) (Q:LV),(N,P,K)=s/\St L No T 172 [(1,p),(2,pt n 0),(4,pt o 0),(10,pt A 0),(11,.bool true),(13,pt G 0),(17,S),(18,.bool P),(70,p),(71,aj (m.length:Int)),(72,aj F),(107,z),(108,aj (E.length:Int)),(109,aj K)] [be S Q,be z D,.box n (aU b e f) 25,.box o [aj 0,.slice none 0 0,.slice none 0 0] 25,aJ t q,.box A [aj (IntKind.i64.wrap (g.r+1)),z,t] 25,.box G (oT c) 153] [aL br p m,ap ac Q N,ap ac D E,aL ac e b.i,aL aa f b.s,ap aa q g.s,bH,qN L No [be e j,aJ f l] [aL br p m,ap ac j b.i,ap aa l b.s,bH]] a w) d0 ⟨_,_,_,_,_,rfl,I.mt [0,3,1,2,4,5,6] [1,0,4,2,3,5,6,7]⟩ ?_;rintro s a w f2 ⟨N,P,K,S,Q,rfl,I⟩ B hf2;have B:fC g E c N P K=some f2:=B;unfold fC at B;refine am I fun a I=>?_;refine aC ?_;rcases cd B with⟨eT,B⟩|⟨eT,B⟩
     ·refine am I fun a I=>?_;refine aM (J:=fun a w=>∃ (b4:LI) (bb:Bool) (bt:Value) (av:LV),St L No T 172 [(1,p),(2,pt n 0),(4,pt o 0),(10,pt A 0),(11,.bool true),(13,pt G 0),(17,bt),(18,.bool bb),(70,p),(71,aj (m.length:Int)),(72,aj F),(107,z),(108,aj (E.length:Int)),(109,aj K)] [be bt av,be z D,.box n (aU b e f) 25,.box o [aj 0,.slice none 0 0,.slice none 0 0] 25,aJ t q,.box A [aj (IntKind.i64.wrap (g.r+1)),z,t] 25,.box G (oT c) 153] [aL br p m,ap ac av b4,ap ac D E,aL ac e b.i,aL aa f b.s,ap aa q g.s,bH,qN L No [be e j,aJ f l] [aL br p m,ap ac j b.i,ap aa l b.s,bH]] a w/\fy K b4 bb=some f2) ?_ ?_
      ·refine am I fun a I=>?_;obtain⟨H,d5,B⟩:=bd B;refine wl rfl (dx (R:=ac) I Dh Di rfl rfl 1 rfl 2 rfl d5 rfl fun h2 hu hv hb eX f3 f4 a I=>?_);obtain rfl:=eX;refine qy I (cg (k:=0) I Di 1 rfl f3 f4 rfl id (us:=(tK H)) rfl rfl (fun h=>by cases h)) fun a I=>?_;refine ka I Ap fun W ho a w O I=>?_;refine go I fun a w I=>?_;obtain⟨a4,dl,B⟩:=bd B;refine kF I Hf (lQ _ _ I.dlt I.g6 H.d c.d _ dl) fun w a I=>?_;refine aM (J:=fun a w=>∃ (a2:LI) (bi:Bool) (c1:Value) (b0:LV),St L No T 172 [(1,p),(2,pt n 0),(4,pt o 0),(10,pt A 0),(11,.bool true),(13,pt G 0),(17,c1),(18,.bool bi),(20,pt W 0),(21,aj a4),(70,p),(71,aj (m.length:Int)),(72,aj F),(107,z),(108,aj (E.length:Int)),(109,aj K)] [be c1 b0,be z D,.box n (aU b e f) 25,.box o [aj 0,.slice none 0 0,.slice none 0 0] 25,aJ t q,.box A [aj (IntKind.i64.wrap (g.r+1)),z,t] 25,.box G (oT c) 153,.box W (tK H) 91] [aL br p m,ap ac b0 a2,ap ac D E,aL ac e b.i,aL aa f b.s,ap aa q g.s,bH,qN L No [be e j,aJ f l] [aL br p m,ap ac j b.i,ap aa l b.s,bH]] a w/\fA K H a4 a2 bi=some f2) ?_ ?_
       ·refine aM (J:=fun a w=>∃ (b2:Bool),St L No T 172 [(1,p),(2,pt n 0),(4,pt o 0),(10,pt A 0),(11,.bool true),(13,pt G 0),(17,S),(18,.bool P),(20,pt W 0),(21,aj a4),(70,p),(71,aj (m.length:Int)),(72,aj F),(107,z),(108,aj (E.length:Int)),(109,aj K),(123,.bool b2)] [be S Q,be z D,.box n (aU b e f) 25,.box o [aj 0,.slice none 0 0,.slice none 0 0] 25,aJ t q,.box A [aj (IntKind.i64.wrap (g.r+1)),z,t] 25,.box G (oT c) 153,.box W (tK H) 91] [aL br p m,ap ac Q N,ap ac D E,aL ac e b.i,aL aa f b.s,ap aa q g.s,bH,qN L No [be e j,aJ f l] [aL br p m,ap ac j b.i,ap aa l b.s,bH]] a w/\fB g c N P K H a4 b2=some f2) ?_ ?_
        ·exact fz
        rintro a w ⟨b2,I,B⟩;unfold fB at B;rcases cd B with⟨f5,B⟩|⟨f5,B⟩
        ·refine am I fun a I=>?_;refine qy I (bw (ps:=[(0,.tmp 126),(1,.tmp 128),(2,.tmp 130)]) I ML Ap rfl (us:=[(aX c.d),[a8 c.u],[aj (IntKind.i64.wrap (g.r+1))]]) ⟨rfl,⟨rfl,⟨rfl,trivial⟩⟩⟩ (ws:=[aj c.d.v,a8 c.d.x,a8 c.u,aj (IntKind.i64.wrap (g.r+1))]) rfl) fun a I=>?_;refine wl rfl (bf (ps:=[(0,.tmp 131)]) I Ev Ap (zl:=[aj 0,a8 cp,a8 cp,aj 0]) (by kernel_rfl) rfl (us:=[[aj c.d.v,a8 c.d.x,a8 c.u,aj (IntKind.i64.wrap (g.r+1))]]) ⟨rfl,trivial⟩ (ws:=[aj c.d.v,a8 c.d.x,a8 c.u,aj (IntKind.i64.wrap (g.r+1))]) rfl rfl rfl rfl fun h3 a w O I=>?_);replace I:=(I.lit (R:=ac) (us:=[aj c.d.v,a8 c.d.x,a8 c.u,aj (IntKind.i64.wrap (g.r+1))]) (xs:=[(a7.mk c.d c.u (IntKind.i64.wrap (g.r+1)))]) 0 rfl (by decide) (aP (R:=ac) (x:=(a7.mk c.d c.u (IntKind.i64.wrap (g.r+1)))) rfl) rfl rfl).zf (R:=ac) 0 rfl 0 rfl;obtain⟨f6,B⟩:=aW B;refine wl rfl (bG (R:=ac) (xs:=N) (ys:=[(a7.mk c.d c.u (IntKind.i64.wrap (g.r+1)))]) I Ev (by decide) (by decide) rfl rfl 0 rfl 3 rfl 0 rfl f6 rfl fun hC hc a w O I=>?_);exact fz
        exact fz
       rintro a w ⟨a2,bi,c1,b0,I,B⟩;unfold fA at B;refine am I fun a I=>?_;rcases cd B with⟨f7,B⟩|⟨f7,B⟩
       ·refine am I fun a I=>?_;refine wl rfl (bf (ps:=[(0,.tmp 137)]) I Ev Ap (zl:=[aj 0,a8 cp,a8 cp,aj 0]) (by kernel_rfl) rfl (us:=[(tK H)]) ⟨rfl,trivial⟩ (ws:=(tK H)) rfl rfl rfl rfl fun h4 a w O I=>?_);replace I:=(I.lit (R:=ac) (us:=(tK H)) (xs:=[H]) 0 rfl (by decide) (aP (R:=ac) (x:=H) rfl) rfl rfl).zf (R:=ac) 0 rfl 0 rfl;obtain⟨f8,B⟩:=aW B;refine wl rfl (bG (R:=ac) (xs:=a2) (ys:=[H]) I Ev (by decide) (by decide) rfl rfl 0 rfl 3 rfl 0 rfl f8 rfl fun hD hd a w O I=>?_);exact fz
       exact fz
      rintro a w ⟨b4,bb,bt,av,I,B⟩;unfold fy at B;exact fz
     refine am I fun a I=>?_;cases B
     have hr:=hf2 _ rfl;subst hr;have B:ez g F c N P=some V:=hMo2;exact fin
    rintro a w ⟨a1,b9,bs,ao,I,B⟩;unfold ez at B;refine aM (J:=fun a w=>∃ (b3:LI) (c2:Value) (b1:LV),St L No T 172 [(1,p),(2,pt n 0),(4,pt o 0),(10,pt A 0),(11,.bool true),(17,c2),(70,p),(71,aj (m.length:Int)),(72,aj F)] [be c2 b1,.box n (aU b e f) 25,.box o [aj 0,.slice none 0 0,.slice none 0 0] 25,be z D,aJ t q,.box A [aj (IntKind.i64.wrap (g.r+1)),z,t] 25] [aL br p m,ap ac b1 b3,aL ac e b.i,aL aa f b.s,ap ac D E,ap aa q g.s,bH,qN L No [be e j,aJ f l] [aL br p m,ap ac j b.i,ap aa l b.s,bH]] a w/\ey F b3=some V) ?_ ?_
    ·refine am I fun a I=>?_;rcases cd B with⟨fd,B⟩|⟨fd,B⟩
     ·refine am I fun a I=>?_;refine qy I (bw (ps:=[(0,.tmp 145),(1,.tmp 147),(2,.tmp 149)]) I ML Ap rfl (us:=[(aX c.d),[a8 c.u],[aj (IntKind.i64.wrap (g.r+1))]]) ⟨rfl,⟨rfl,⟨rfl,trivial⟩⟩⟩ (ws:=[aj c.d.v,a8 c.d.x,a8 c.u,aj (IntKind.i64.wrap (g.r+1))]) rfl) fun a I=>?_;refine wl rfl (bf (ps:=[(0,.tmp 150)]) I Ev Ap (zl:=[aj 0,a8 cp,a8 cp,aj 0]) (by kernel_rfl) rfl (us:=[[aj c.d.v,a8 c.d.x,a8 c.u,aj (IntKind.i64.wrap (g.r+1))]]) ⟨rfl,trivial⟩ (ws:=[aj c.d.v,a8 c.d.x,a8 c.u,aj (IntKind.i64.wrap (g.r+1))]) rfl rfl rfl rfl fun h5 a w O I=>?_);replace I:=(I.lit (R:=ac) (us:=[aj c.d.v,a8 c.d.x,a8 c.u,aj (IntKind.i64.wrap (g.r+1))]) (xs:=[(a7.mk c.d c.u (IntKind.i64.wrap (g.r+1)))]) 0 rfl (by decide) (aP (R:=ac) (x:=(a7.mk c.d c.u (IntKind.i64.wrap (g.r+1)))) rfl) rfl rfl).zf (R:=ac) 0 rfl 0 rfl;obtain⟨fl,B⟩:=aW B;refine wl rfl (bG (R:=ac) (xs:=a1) (ys:=[(a7.mk c.d c.u (IntKind.i64.wrap (g.r+1)))]) I Ev (by decide) (by decide) rfl rfl 0 rfl 3 rfl 0 rfl fl rfl fun hE hf a w O I=>?_);exact fz
     exact fz
    rintro a w ⟨b3,c2,b1,I,B⟩;unfold ey at B;exact fz
   rintro a w ⟨ag,b8,bl,ak,I,B⟩;unfold ic at B;exact fz
  refine am I fun a I=>?_;cases B
  have hr:=hf1 _ rfl;subst hr;have B:jT b g M E=some y:=hMo1;exact fin
 rintro a w ⟨af,b7,a5,X,I,B⟩;unfold jT at B;refine aC ?_;refine am I fun a I=>?_;rcases cd B with⟨fn,B⟩|⟨fn,B⟩
 ·refine go I fun a w I=>?_;replace I:=I.thaw 5 rfl;cases B
  refine aG I Tryz.results29 (bC I rfl 3 rfl f9 rfl (fun h=>by cases h) (aw I rfl aI)) ?_;exact⟨e,j,f,l,rfl,I.zo ⟨.inr (aO (i:=0) rfl),⟨.inr (aO (i:=1) rfl),trivial⟩⟩ 0 rfl 1 rfl,I.zo ⟨.inr (aO (i:=0) rfl),⟨.inr (aO (i:=1) rfl),trivial⟩⟩ 1 rfl 2 rfl,(I.zp 0 rfl 1 rfl (by decide))⟩
 refine am I fun a I=>?_;rcases cd B with⟨fr,B⟩|⟨fr,B⟩
 ·refine go I fun a w I=>?_;replace I:=I.thaw 5 rfl;cases B
  refine aG I Tryz.results29 (bC I rfl 3 rfl f9 rfl (fun h=>by cases h) (aw I rfl aI)) ?_;exact⟨e,j,f,l,rfl,I.zo ⟨.inr (aO (i:=0) rfl),⟨.inr (aO (i:=1) rfl),trivial⟩⟩ 0 rfl 1 rfl,I.zo ⟨.inr (aO (i:=0) rfl),⟨.inr (aO (i:=1) rfl),trivial⟩⟩ 1 rfl 2 rfl,(I.zp 0 rfl 1 rfl (by decide))⟩
 refine am I fun a I=>?_;rcases cd B with⟨fs,B⟩|⟨fs,B⟩
 ·refine go I fun a w I=>?_;replace I:=I.thaw 5 rfl;cases B
  refine aG I Tryz.results29 (bC I rfl 3 rfl f9 rfl (fun h=>by cases h) (aw I rfl aI)) ?_;exact⟨e,j,f,l,rfl,I.zo ⟨.inr (aO (i:=0) rfl),⟨.inr (aO (i:=1) rfl),trivial⟩⟩ 0 rfl 1 rfl,I.zo ⟨.inr (aO (i:=0) rfl),⟨.inr (aO (i:=1) rfl),trivial⟩⟩ 1 rfl 2 rfl,(I.zp 0 rfl 1 rfl (by decide))⟩
 refine go I fun a w I=>?_;cases B
 refine aG I Tryz.results29 (bC I rfl 1 rfl f9 rfl (fun h=>by cases h) (aw I rfl aI)) ?_;exact⟨a5,X,t,q,rfl,I.zo ⟨.inr (aO (i:=2) rfl),⟨.inr (aO (i:=3) rfl),trivial⟩⟩ 2 rfl 2 rfl,I.zo ⟨.inr (aO (i:=2) rfl),⟨.inr (aO (i:=3) rfl),trivial⟩⟩ 3 rfl 3 rfl,(I.zp 2 rfl 3 rfl (by decide))⟩
end
end
end Go.Proofs.YtcpplgcgcbihoaaGreatDoor
