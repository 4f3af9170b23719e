/- Texts of the proof, joined (1). -/
import Derived.Test.YtllbbcgnnoonoaaGreatDoorA0
import Derived.Maps.RangeRun
import Derived.Test.YtllbbcgnnoonoaaGreatDoorProg
import Derived.Lib.SliceRun
import Derived.Lib.AppendZerosOnto
import Derived.Lib.Overlaps
import Derived.Laws.Externs
set_option linter.unusedVariables false
set_option linter.unusedSimpArgs false
set_option linter.unusedSectionVars false
namespace Go.Proofs.YtllbbcgnnoonoaaGreatDoor
open Go.RowKit
section
section
variable {P:Program} {W:World} {M T E:Nat->Prop} {n:Nat} {G G':List (Nat×Value)} {D D' D0 Dr rs:List cZ} {F F':List co} {a:Act} {w w':World} {K:Act->World->Prop}
theorem St.notD {r:cZ} (h:St W M T n G D F a w) (i:Nat) (hi:D[i]? = some r) {k:Nat} (O:r.dom k):¬ dT T (D.eraseIdx i) k:=by
 have hlt:=(bR.1 hi).1;have hD:=(bR.1 hi).2;rintro (hT | ⟨s,hs,hT⟩)
 ·exact (h.free _ (az hi) k O).1 hT
 ·obtain⟨z,hz⟩:=dt.1 hs;rw [DM] at hz;split at hz
  ·rename_i hzi;have hzl:=(bR.1 hz).1;have:=eC.1 h.apart z i hzl hlt hzi k (by rw [(bR.1 hz).2]; exact hT);rw [hD] at this; exact this O
  ·rename_i hzi;have hzl:=(bR.1 hz).1;have:=eC.1 h.apart i (z+1) hlt hzl (by omega) k (by rw [hD]; exact O);rw [(bR.1 hz).2] at this; exact this hT
end
end
section
section
variable {α ν β:Type}
variable {N}
variable {P:Program} {W:World} {M T E:Nat->Prop} {n:Nat} {G G':List (Nat×Value)} {D D' D0 Dr rs:List cZ} {F F':List co} {a:Act} {w w':World} {K:Act->World->Prop}
end
end
section
section
variable {P:Program} {W:World} {M T E:Nat->Prop} {n:Nat} {G G':List (Nat×Value)} {D D' D0 Dr rs:List cZ} {F F':List co} {a:Act} {w w':World} {K:Act->World->Prop}
end
end
section
def Qo {κ ν:Type} (RK:aY κ) (ak:Bool) (RV:aY ν) (av:Bool) (T:Nat->Prop) (W w:World) (rs:List cZ) (b:Nat) (es:Array MapEntry) (ck:Nat) (xs:List (κ×ν)):Prop :=
 w.heap[b]? = some (.map es ck)/\W.heap.size<=b/\bW RK ak RV av (dT T rs) w es xs
theorem zO {W:World} {b:Nat} {o:Obj} (h:W.heap.size<=b):∀ k,cZ.dom (.obj b o) k->W.heap.size<=k:=fun k O=>by
 simp only [cZ.dom,cw] at O; omega
section
variable {κ ν:Type} {P:Program} {W:World} {M T E:Nat->Prop} {n:Nat} {G:List (Nat×Value)} {D rs:List cZ} {F:List co} {a:Act} {w:World}
theorem St.retMap {RK:aY κ} {ak:Bool} {RV:aY ν} {av:Bool} {b ck:Nat} {es:Array MapEntry} {xs:List (κ×ν)} (h:St W No T n G D F a w) (hi:N0 D rs) (i:Nat) (hd:D[i]? = some (.obj b (.map es ck))) (j:Nat) (hj:F[j]? = some (ir RK ak RV av es xs)):Qo RK ak RV av T W w rs b es ck xs:=by
 have hm:=az hd;exact⟨h.own _ hm,(h.free _ hm b rfl).2.resolve_left fun h=>h,(h.get j hj:bW RK ak RV av (dT T D) w es xs).keep (aw _ _) fun k O=>.inl (hi.sub k O)⟩
end
end
section
def HR {α:Type} (R:aY α):aY (bG ⊕ α) where
 size:=R.size
 rel:=fun T w cs y=>match y with
  | .inl c=>cs=c/\c.length=R.size/\∀ u∈c,u.oneCell'=true
  | .inr x=>R.rel T w cs x
 len:=fun {T w cs y} h=>by
  cases y with
  | inl c=>obtain⟨rfl,h,_⟩:=h; exact h
  | inr x=>exact R.len h
 one:=fun {T w cs y} h=>by
  cases y with
  | inl c=>obtain⟨rfl,_,h⟩:=h; exact h
  | inr x=>exact R.one h
 keep:=fun {T T' w w' cs y} h k n=>by
  cases y with
  | inl c=>exact h
  | inr x=>exact R.keep h k n
section
variable {α:Type} {R:aY α} {P:Program} {W:World} {M T E:Nat->Prop} {n:Nat} {G:List (Nat×Value)} {D rs:List cZ} {F:List co} {a:Act} {w:World} {K:Act->World->Prop} {xs:List α} {i:Int} {x:α} {cs cl:bG}
end
end
section
section
variable {κ β:Type} {P:Program} {W:World} {M T E:Nat->Prop} {n:Nat} {G G':List (Nat×Value)} {D D':List cZ} {F F':List co} {a:Act} {w w':World} {K:Act->World->Prop}
variable {kt et:TypeId} {RK:aY κ} {ak:Bool} {RI:aY β} {e:TypeId} {q:κ->κ->Bool} {b ck:Nat} {es:Array MapEntry} {inn:List DS} {xs:List (κ×List β)}
end
end
section
section
variable {κ ν:Type} {RK:aY κ} {ak:Bool} {RV:aY ν} {av:Bool}
end
section
variable {κ ν:Type} {P:Program} {W:World} {M T E:Nat->Prop} {n:Nat} {G G':List (Nat×Value)} {D D':List cZ} {F F':List co} {a:Act} {w w':World} {K:Act->World->Prop}
variable {kt et:TypeId} {RK:aY κ} {ak:Bool} {RV:aY ν} {av:Bool} {q:κ->κ->Bool} {b clock:Nat} {es:Array MapEntry} {xs:List (κ×ν)}
end
end
section
section
variable {P:Program} {ops:Array Oper} {Q:Exit->Act->World->Prop}
end
end
section
end
section
variable {X Y Z:Operand} {ck:Nat} {t ty:TypeId}
variable {pos:String} {af:Array Edge} {g:Option (Nat×Bool)}
structure oe (es:Array MapEntry) (ck:Nat):Prop where
  lt:∀ (i:Nat) (m:MapEntry),es[i]? = some m->m.born<ck
  inj:∀ (i j:Nat) (m m':MapEntry),es[i]? = some m->es[j]? = some m'->m.born=m'.born->i=j
theorem oe.nil:oe #[] 0:=⟨fun i m h=>by simp at h,fun i j m m' h=>by simp at h⟩
theorem oe.push {es:Array MapEntry} (h:oe es ck) (k v:Value):oe (es.push { key:=k,val:=v,born:=ck }) (ck+1):=by
  have old:∀ (z:Nat) (m:MapEntry),(es.push { key:=k,val:=v,born:=ck })[z]? = some m->(z<es.size/\es[z]? = some m)∨(z=es.size/\m={ key:=k,val:=v,born:=ck }):=by
    intro z m hz;rw [Array.getElem?_push] at hz;split at hz
    · rename_i h; injection hz with hz; exact .inr ⟨h,hz.symm⟩
    · exact .inl ⟨(A7.1 hz).1,hz⟩
  refine⟨fun z m hz=>?_,fun z z' m m' hz hz' hb=>?_⟩
  · rcases old z m hz with⟨_,h2⟩|⟨rfl,rfl⟩
    · have:=h.lt z m h2; omega
    · exact Nat.lt_succ_self _
  · rcases old z m hz with⟨_,h2⟩|⟨rfl,rfl⟩ <;> rcases old z' m' hz' with⟨_,h2'⟩|⟨rfl,rfl⟩
    · exact h.inj z z' m m' h2 h2' hb
    · have:=h.lt z m h2; simp only at hb; omega
    · have:=h.lt z' m' h2'; simp only at hb; omega
    · rfl
theorem yH {es:Array MapEntry} {p:Nat} {f:MapEntry->MapEntry} {z:Nat} {m:MapEntry} (hz:(es.modify p f)[z]? = some m):∃ m0,es[z]? = some m0/\m=if p=z then f m0 else m0:=by
  rw [Iz] at hz;split at hz
  · rename_i h;obtain⟨m0,h1,rfl⟩:=Gu.1 hz;exact⟨m0,h1,by rw [if_pos h]⟩
  · rename_i h; exact⟨m,hz,by rw [if_neg h]⟩
theorem oe.modify {es:Array MapEntry} (h:oe es ck) (p:Nat) (f:MapEntry->MapEntry) (hf:∀ e,(f e).born=e.born):oe (es.modify p f) ck:=by
  have old:∀ (z:Nat) (m:MapEntry),(es.modify p f)[z]? = some m->∃ m0,es[z]? = some m0/\m.born=m0.born:=by
    intro z m hz;obtain⟨m0,h1,rfl⟩:=yH hz;refine⟨m0,h1,?_⟩;split
    · exact hf m0
    · rfl
  refine⟨fun z m hz=>?_,fun z z' m m' hz hz' hb=>?_⟩
  · obtain⟨m0,h1,h2⟩:=old z m hz; rw [h2]; exact h.lt z m0 h1
  · obtain⟨m0,h1,h2⟩:=old z m hz;obtain⟨m1,h3,h4⟩:=old z' m' hz';exact h.inj z z' m0 m1 h1 h3 (by rw [<- h2,<- h4]; exact hb)
theorem oe.find {es:Array MapEntry} {p:Nat} {m0:MapEntry} (h:oe es ck) (hm0:es[p]? = some m0):es.findIdx? (fun m=>(m.born:Int)==(m0.born:Int))=some p:=by
  rw [Array.findIdx?_eq_some_iff_getElem];obtain⟨h1,h2⟩:=A7.1 hm0;refine⟨h1,by simp [h2],fun z hz=>?_⟩;have hzl:z<es.size:=by omega
  intro h3;have h3:(es[z].born:Int)=(m0.born:Int):=by simpa using h3
  have:=h.inj z p _ _ (xD hzl) hm0 (by omega);omega
def DQ (es:Array MapEntry) (ck:Nat):co:=⟨fun _ _=>oe es ck,fun h _ _=>h⟩
def RD {κ ν:Type} (RK:aY κ) (ak:Bool) (RV:aY ν) (av:Bool) (q:κ->κ->Bool) (es:Array MapEntry) (ck:Nat) (xs:List (κ×ν)) (key:κ) (s:Int):co :=
  ⟨fun T w=>∃ (u:ν) (p:Nat) (m:MapEntry),bW RK ak RV av T w es (ew q key u xs)/\oe es ck/\es[p]? = some m/\s=m.born/\∀ y,(ew q key u xs).set p (key,y)=ew q key y xs,
   fun h k n=>by obtain⟨u,p,m,h1,h2⟩:=h; exact⟨u,p,m,h1.keep k n,h2⟩⟩
section
variable {κ ν:Type} {P:Program} {W:World} {M T E:Nat->Prop} {n:Nat} {G G':List (Nat×Value)} {D D':List cZ} {F F':List co} {a:Act} {w w':World} {K:Act->World->Prop}
variable {kt et:TypeId} {RK:aY κ} {ak:Bool} {RV:aY ν} {av:Bool} {q:κ->κ->Bool} {b clock:Nat} {es:Array MapEntry} {xs:List (κ×ν)}
theorem K7 (ht:J8 P t=some (kt,et)) (hK:Ai P kt RK ak q) {T:Nat->Prop} {w w0:World} (hr:w.heap[b]? = some (.map es clock)) (hm:bW RK ak RV av T w0 es xs) (hB:oe es clock) {c cv:bG} {key:κ} {val:ν} (hc:RK.rel T w0 c key) (hv:RV.rel T w0 cv val) :
    ∃ es' ck',(Instr.mapUpdate t (.map (some b)) (bF ak c) (bF av cv)).run P w = .ok () { w with heap:=w.heap.setIfInBounds b (.map es' ck') }/\bW RK ak RV av T w0 es' (ew q key val xs)/\oe es' ck':=by
  obtain⟨hl,hkeys⟩:=xU hm;have hf:=tC hK hc w hl hkeys;have hch:=hK.check false _ _ w _ _ hc;cases hp:vP q key xs with
  | none =>
    obtain⟨_,g2,_⟩:=ta hp;rw [hp] at hf;refine⟨es.push { key:=bF ak c,val:=bF av cv,born:=clock },clock+1,?_,⟨by rw [g2]; simp [hm.1],fun z e x he hx=>?_⟩,hB.push _ _⟩
    · simp [Instr.mapUpdate,run_underlying (pa ht),yE hr,hch,hf,BX,Gb _ hr]
    · rw [g2] at hx;by_cases hz:z<xs.length
      · rw [jm hz] at hx;rw [Rt (by rw [hm.1]; exact hz)] at he;exact hm.2 z e x (by rw [<- he]; exact (xD _)) hx
      · rw [jn (by omega)] at hx;obtain rfl:z=xs.length:=by
          rcases e9 xs.length z with h | h
          · rw [vu (by simp; omega)] at hx; cases hx
          · omega
        simp at hx;subst hx;rw [<- hm.1,Pr] at he;simp only [cw] at he;subst he;exact⟨⟨c,hc,rfl⟩,cv,hv,rfl⟩
  | some p =>
    obtain⟨x0,hx0,hq0,_,g2,_⟩:=tb hp;have hpi:p<es.size:=by rw [hm.1]; exact (bR.1 hx0).1
    have he0:es[p]? = some es[p]:=xD hpi;obtain⟨⟨d0,hd0,hk0⟩,_⟩:=hm.2 p _ x0 he0 hx0;have hbits:=hK.bits _ _ _ _ _ _ _ _ hc hd0 hq0;rw [hp] at hf;refine⟨es.modify p fun e=>{ e with key:=bF ak c,val:=bF av cv },clock,?_,⟨by rw [g2]; simp [hm.1],fun z e x he hx=>?_⟩,hB.modify p _ fun _=>rfl⟩
    · have hat:BX es.toList 0 (some p)=some (p,es[p].val):=by simp [BX,he0]
      rw [hat] at hf;have hkt:(Instr.keyThatStays (((es[p]?).map (·.key)).getD (bF ak c)) (bF ak c)).run P w = .ok (bF ak c) w:=by
        rw [he0];simp only [nG,yZ,hk0,Instr.keyThatStays,hbits,if_true,Sem.run_pure]
      simp only [Instr.mapUpdate,Sem.run_bind,run_underlying (pa ht),Result.andThen_ok,yE hr,hch,hf,hkt,Gb _ hr]
    · rw [g2] at hx;by_cases hz:p=z
      · subst hz;rw [Ag (by rw [<- hm.1]; exact hpi)] at hx;simp only [cw] at hx;subst hx;rw [Iz,if_pos rfl,he0] at he;simp only [nG,cw] at he;subst he;exact⟨⟨c,hc,rfl⟩,cv,hv,rfl⟩
      · rw [Af hz] at hx;rw [Iz,if_neg hz] at he;exact hm.2 z e x he hx
theorem HE {d:Nat} (RK:aY κ) (ak:Bool) (RV:aY ν) (av:Bool) (I:St W M T n G D F a w) (hn:Nat.blt d n=true)
    (k:∀ b,w.heap.size<=b->∀ a w',Kt No w w'->St W M T n ((d,.map (some b))::G) (.obj b (.map #[] 0)::D) (DQ #[] 0::ir RK ak RV av #[] []::F) a w'->K a w'):t8 P ⟨some d,.makeMap t none,ty,pos,af,g⟩ a w K :=
  sQ RK ak RV av I hn fun b hb a w' O I=>k b hb a w' O (I.fact _ oe.nil)
theorem J2 (I:St W M T n G D F a w) (ht:J8 P t=some (kt,et)) (hK:Ai P kt RK ak q) (i:Nat) (hi:D[i]? = some (.obj b (.map es clock))) (j:Nat) (hj:F[j]? = some (ir RK ak RV av es xs)) (jb:Nat) (hb:F[jb]? = some (DQ es clock))
    {c cv:bG} {key:κ} {val:ν} (hc:RK.rel (dT T D) w c key) (hv:RV.rel (dT T D) w cv val) (hX:ev G X=some (.map (some b))) (hY:ev G Y=some (bF ak c)) (hZ:ev G Z=some (bF av cv))
    (k:∀ es' ck' w',Kt (fun j=>j=b) w w'->St W M T n G (D.set i (.obj b (.map es' ck'))) (DQ es' ck'::ir RK ak RV av es' (ew q key val xs)::F) a w'->K a w'):t8 P ⟨none,.mapUpdate t X Y Z,ty,pos,af,g⟩ a w K:=by
  have hr:w.heap[b]? = some (.map es clock):=I.own _ (az hi);obtain⟨es',ck',hrun,hok,hB⟩:=K7 ht hK hr (I.mapOk j hj) (I.get jb hb) hc hv;refine HH (w':={ w with heap:=w.heap.setIfInBounds b (.map es' ck') }) (by simp [execOp,I.ev hX,I.ev hY,I.ev hZ,hrun]) (k es' ck' _ ((sG hr).mono fun j hj=>(bJ hj).symm) ?_);exact ((I.fact (ir RK ak RV av es' _) hok).fact (DQ es' ck') hB).turn hi (sG hr) (r':=.obj b (.map es' ck')) (x8 hr).1 fun j hj=>.inl hj
theorem CM (I:St W M T n G D F a w) (ht:J8 P t=some (kt,et)) (hK:Ai P kt RK ak q) (i:Nat) (hi:D[i]? = some (.obj b (.map es clock))) (j:Nat) (hj:F[j]? = some (ir RK ak RV av es xs)) (jb:Nat) (hb:F[jb]? = some (DQ es clock))
    {c cv:bG} {key:κ} {val:ν} (hc:RK.rel (dT T D) w c key) (hv:RV.rel (dT T D) w cv val) (hX:ev G X=some (.map (some b))) (hY:ev G Y=some (bF ak c)) (hZ:ev G Z=some (bF av cv))
    (k:∀ es' ck' w',Kt (fun j=>j=b) w w'->St W M T n G (D.set i (.obj b (.map es' ck'))) (DQ es' ck'::ir RK ak RV av es' (ew q key val xs)::F) a w'->K a w'):t8 P ⟨none,.insert t X Y Z,ty,pos,af,g⟩ a w K :=
  J2 (ty:=ty) (pos:=pos) (af:=af) (g:=g) I ht hK i hi j hj jb hb hc hv hX hY hZ k
theorem K3 {d:Nat} (I:St W M T n G D F a w) (hd:Nat.blt d n=true) (ht:J8 P t=some (kt,et)) (hK:Ai P kt RK ak q) (i:Nat) (hi:D[i]? = some (.obj b (.map es clock))) (j:Nat) (hj:F[j]? = some (ir RK ak RV av es xs)) (jb:Nat) (hb:F[jb]? = some (DQ es clock))
    {c:bG} {key:κ} (hc:RK.rel (dT T D) w c key) {z:Value} {zc:bG} {z0:ν} (hz:Pt P et=some z) (hzc:z=bF av zc) (hz0:RV.rel (dT T D) w zc z0) (hX:ev G X=some (.map (some b))) (hY:ev G Y=some (bF ak c))
    (k:∀ v es' ck' (s:Int) a w',Kt (fun j=>j=b) w w'->St W M T n ((d,.tuple #[v,.int .i64 s])::G) (D.set i (.obj b (.map es' ck'))) (RD RK ak RV av q es' ck' xs key s::F) a w'->K a w'):t8 P ⟨some d,.mapEntry t X Y,ty,pos,af,g⟩ a w K:=by
  have hr:w.heap[b]? = some (.map es clock):=I.own _ (az hi);have hm:=I.mapOk j hj;have hB:oe es clock:=I.get jb hb;obtain⟨hl,hkeys⟩:=xU hm;have hf:=tC hK hc w hl hkeys;have hch:=hK.check false _ _ w _ _ hc;have hzr:=Gw (P:=P) hz w;cases hp:vP q key xs with
  | none =>
    obtain⟨_,g2,_⟩:=ta hp;rw [hp] at hf;have hrun:(execOp a.eval ⟨some d,.mapEntry t X Y,ty,pos,af,g⟩).run P w = .ok (.value (.tuple #[z,.int .i64 clock])) { w with heap:=w.heap.setIfInBounds b (.map (es.push { key:=bF ak c,val:=z,born:=clock }) (clock+1)) }:=by
      simp [execOp,I.ev hX,I.ev hY,Instr.mapEntry,run_underlying (pa ht),yE hr,hch,hf,BX,Gb _ hr,hzr,goInt]
    refine Aw hrun (k z (es.push { key:=bF ak c,val:=z,born:=clock }) (clock+1) clock _ _ ((sG hr).mono fun j hj=>(bJ hj).symm) ?_);refine St.put ?_ hd _;refine (I.fact (RD RK ak RV av q _ (clock+1) xs key clock) ?_).turn hi (sG hr) (r':=.obj b (.map (es.push { key:=bF ak c,val:=z,born:=clock }) (clock+1))) (x8 hr).1 fun j hj=>.inl hj;refine⟨z0,xs.length,{ key:=bF ak c,val:=z,born:=clock },⟨by rw [g2]; simp [hm.1],fun y e x he hx=>?_⟩,hB.push _ _,by rw [<- hm.1,Pr],rfl,fun y=>by rw [g2,g2,xB _ _ (bx _)]; simp⟩;rw [g2] at hx;by_cases hz:y<xs.length
    · rw [jm hz] at hx;rw [Rt (by rw [hm.1]; exact hz)] at he;exact hm.2 y e x (by rw [<- he]; exact (xD _)) hx
    · rw [jn (by omega)] at hx;obtain rfl:y=xs.length:=by
        rcases e9 xs.length y with h | h
        · rw [vu (by simp; omega)] at hx; cases hx
        · omega
      simp at hx;subst hx;rw [<- hm.1,Pr] at he;simp only [cw] at he;subst he;exact⟨⟨c,hc,rfl⟩,zc,hz0,hzc⟩
  | some p =>
    obtain⟨x0,hx0,hq0,_,g2,_⟩:=tb hp;have hpi:p<es.size:=by rw [hm.1]; exact (bR.1 hx0).1
    have hpx:p<xs.length:=(bR.1 hx0).1;have he0:es[p]? = some es[p]:=xD hpi;obtain⟨⟨d0,hd0,hk0⟩,cv0,hcv0,hv0⟩:=hm.2 p _ x0 he0 hx0;have hbits:=hK.bits _ _ _ _ _ _ _ _ hc hd0 hq0;rw [hp] at hf;have hat:BX es.toList 0 (some p)=some (p,es[p].val):=by simp [BX,he0]
    rw [hat] at hf;have hkt:(Instr.keyThatStays es[p].key (bF ak c)).run P w = .ok (bF ak c) w:=by
      simp only [hk0,Instr.keyThatStays,hbits,if_true,Sem.run_pure]
    have hrun:(execOp a.eval ⟨some d,.mapEntry t X Y,ty,pos,af,g⟩).run P w = .ok (.value (.tuple #[es[p].val,.int .i64 es[p].born])) { w with heap:=w.heap.setIfInBounds b (.map (es.modify p fun m=>{ m with key:=bF ak c }) clock) }:=by
      have h5:(Instr.mapEntry t (.map (some b)) (bF ak c)).run P w = .ok (.tuple #[es[p].val,.int .i64 es[p].born]) { w with heap:=w.heap.setIfInBounds b (.map (es.modify p fun m=>{ m with key:=bF ak c }) clock) }:=by
        simp only [Instr.mapEntry,Sem.run_bind,run_underlying (pa ht),Result.andThen_ok,yE hr,hch,hf,hkt,Gb _ hr,Sem.run_pure,goInt,he0,nG,yZ]
      simp only [execOp,I.ev hX,I.ev hY,Sem.run_bind,h5,Result.andThen_ok,Sem.run_pure]
    refine Aw hrun (k es[p].val (es.modify p fun m=>{ m with key:=bF ak c }) clock es[p].born _ _ ((sG hr).mono fun j hj=>(bJ hj).symm) ?_);refine St.put ?_ hd _;refine (I.fact (RD RK ak RV av q _ clock xs key es[p].born) ?_).turn hi (sG hr) (r':=.obj b (.map (es.modify p fun m=>{ m with key:=bF ak c }) clock)) (x8 hr).1 fun j hj=>.inl hj;refine⟨x0.2,p,{ es[p] with key:=bF ak c },⟨by rw [g2]; simp [hm.1],fun y e x he hx=>?_⟩,hB.modify p _ fun _=>rfl,by rw [Iz,if_pos rfl,he0]; rfl,rfl,fun y=>by rw [g2,g2,List.set_set]⟩;obtain⟨m0,h1,h2⟩:=yH he;rw [g2,DN] at hx;by_cases hz:p=y
    · subst hz;rw [if_pos rfl,if_pos hpx] at hx;simp only [cw] at hx;subst hx;rw [if_pos rfl] at h2;rw [he0] at h1;obtain rfl:=bJ h1;subst h2;exact⟨⟨c,hc,rfl⟩,cv0,hcv0,hv0⟩
    · rw [if_neg hz] at hx h2;subst h2;exact hm.2 y _ x h1 hx
theorem K4 {key:κ} {s:Int} {cv:bG} {val:ν} (I:St W M T n G D F a w) (i:Nat) (hi:D[i]? = some (.obj b (.map es clock))) (j:Nat) (hj:F[j]? = some (RD RK ak RV av q es clock xs key s)) (hv:RV.rel (dT T D) w cv val) (hX:ev G X=some (.map (some b))) (hY:ev G Y=some (.int .i64 s)) (hZ:ev G Z=some (bF av cv))
    (k:∀ es' w',Kt (fun j=>j=b) w w'->St W M T n G (D.set i (.obj b (.map es' clock))) (DQ es' clock::ir RK ak RV av es' (ew q key val xs)::F) a w'->K a w'):t8 P ⟨none,.entryStore t X Y Z,ty,pos,af,g⟩ a w K:=by
  have hr:w.heap[b]? = some (.map es clock):=I.own _ (az hi);obtain⟨u,p,m0,hm,hB,hm0,rfl,hset'⟩:(RD RK ak RV av q es clock xs key s).p (dT T D) w:=I.get j hj;have hfi:=hB.find hm0;have hrun:(execOp a.eval ⟨none,.entryStore t X Y Z,ty,pos,af,g⟩).run P w = .ok .skip { w with heap:=w.heap.setIfInBounds b (.map (es.modify p fun m=>{ m with val:=bF av cv }) clock) }:=by
    have h5:(Instr.entryStore t (.map (some b)) (.int .i64 (m0.born:Int)) (bF av cv)).run P w = .ok () { w with heap:=w.heap.setIfInBounds b (.map (es.modify p fun m=>{ m with val:=bF av cv }) clock) }:=by
      simp only [Instr.entryStore,Sem.run_bind,yE hr,Result.andThen_ok,asInt,asIntOf,Sem.run_pure,hfi,Gb _ hr]
    simp only [execOp,I.ev hX,I.ev hY,I.ev hZ,Sem.run_bind,h5,Result.andThen_ok,Sem.run_pure]
  refine HH hrun (k (es.modify p fun m=>{ m with val:=bF av cv }) _ ((sG hr).mono fun j hj=>(bJ hj).symm) ?_);refine ((I.fact (ir RK ak RV av (es.modify p fun m=>{ m with val:=bF av cv }) (ew q key val xs)) ?_).fact (DQ (es.modify p fun m=>{ m with val:=bF av cv }) clock) (hB.modify p _ fun _=>rfl)).turn hi (sG hr) (r':=.obj b (.map (es.modify p fun m=>{ m with val:=bF av cv }) clock)) (x8 hr).1 fun j hj=>.inl hj;rw [<- hset' val];refine⟨by simp [hm.1],fun y e x he hx=>?_⟩;obtain⟨m1,h1,h2⟩:=yH he;rw [DN] at hx;by_cases hz:p=y
  · subst hz;have hpx:p<(ew q key u xs).length:=by rw [<- hm.1]; exact (A7.1 h1).1
    rw [if_pos rfl,if_pos hpx] at hx;simp only [cw] at hx;subst hx;rw [if_pos rfl] at h2;subst h2;obtain⟨⟨d,hd,O⟩,_⟩:=hm.2 p m1 _ h1 (bh hpx);have hkk:(ew q key u xs)[p].1=key:=by
      have h6:=hset' u;have h7:=congrArg (fun l=>l[p]?) h6;simp only [DN,if_true,hpx,bh hpx,cw] at h7;rw [<- h7]
    exact⟨⟨d,by rw [hkk] at hd; exact hd,O⟩,cv,hv,rfl⟩
  · rw [if_neg hz] at hx h2;subst h2;exact hm.2 y _ x h1 hx
end
end
section
section
variable {P:Program} {a:Act} {w:World} {Q:Exit->Act->World->Prop}
theorem xu {x:Code} (J:Act->World->Prop) (h1:x.wp P (Exit.then J Q) a w) (h2:∀ a w,J a w->Q .normal a w):x.wp P Q a w :=
 wp_mono h1 fun e a w h=>by cases e <;> first | exact h2 a w h | exact h
theorem w6 {fn:Func} {R:Ending->World->Prop} (h:bodyPost P fn R .ret a w):bodyPost P fn R .normal a w:=h
end
section
variable {κ ν:Type} {P:Program} {W:World} {M T E:Nat->Prop} {n:Nat} {G G':List (Nat×Value)} {D D':List cZ} {F F':List co} {a:Act} {w w':World} {K:Act->World->Prop}
variable {kt et:TypeId} {RK:aY κ} {ak:Bool} {RV:aY ν} {av:Bool} {q:κ->κ->Bool} {b r ck:Nat} {es:Array MapEntry} {seen:Array Nat} {xs:List (κ×ν)}
end
end
section
section
variable {P:Program} {W:World} {M T:Nat->Prop} {n d j t:Nat} {G:List (Nat×Value)} {D:List cZ} {F:List co} {a:Act} {w:World} {ops:Array Oper} {Q:Exit->Act->World->Prop} {rest:List Oper} {o:Oper} {v:Value} {x y:Operand} {ty tt t':TypeId} {pos:String} {af:Array Edge} {want c:Bool} {id:Nat} {l:List Oper} {z:Code}
theorem qy (I:St W M T n G D F a w) (h:Ye P o a No w v) (k:∀ a,St W M T n ((d,v)::G) D F a w->wpList P ops Q rest a w) (hg:o.guard=none:=by rfl) (hd:o.dst=some d:=by rfl) (hn:Nat.blt d n=true:=by rfl):wpList P ops Q (o::rest) a w:=wy I h hg hd hn k
theorem qg (I:St W M T n G D F a w) (hc:c=want) (h:Ye P o a No w v) (k:∀ a,St W M T n ((d,v)::G) D F a w->wpList P ops Q rest a w) (hg:o.guard=some (j,want):=by rfl) (hj:(ops[j]?).bind (·.dst)=some t:=by rfl) (ht:lk G t=some (.bool c):=by rfl) (hd:o.dst=some d:=by rfl) (hn:Nat.blt d n=true:=by rfl):wpList P ops Q (o::rest) a w:=wg I hg hj ht hc (ky I h hd hn k)
end
end
section
section
variable {α:Type} {R:aY α} {P:Program} {W:World} {M T E:Nat->Prop} {n:Nat} {G:List (Nat×Value)} {D rs:List cZ} {F:List co} {a:Act} {w:World} {K:Act->World->Prop} {xs ys:List α} {i:Int} {x:α} {cs cl:bG}
end
section
variable {α:Type} {R:aY α} {P:Program} {W:World} {M T E:Nat->Prop} {n:Nat} {G:List (Nat×Value)} {D rs:List cZ} {F:List co} {a:Act} {w:World} {K:Act->World->Prop} {xs ys zs:List α} {v0 v1 v2:Value}
end
section
variable {W:World} {M T:Nat->Prop} {n:Nat} {G G2:List (Nat×Value)} {D rs:List cZ} {F F2 F0:List co} {a:Act} {w:World}
def rW (W:World) (M:Nat->Prop) (rs:List cZ) (F0:List co):co :=
  ⟨fun T w=>(∀ r∈rs,r.ok w)/\(∀ r∈rs,∀ k,r.dom k->¬ T k/\(M k∨W.heap.size<=k))/\(rs.Pairwise fun (r s:cZ)=>∀ (k:Nat),r.dom k->¬ s.dom k)/\∀ f∈F0,f.p (dT T rs) w,
   fun h k n=>⟨fun r hr=>cZ.keep (h.1 r hr) fun j hj=>k.block j (cZ.lt (h.1 r hr) j hj) (h.2.1 r hr j hj).1,
     fun r hr j hj=>⟨fun hT=>by
       rcases n j hT with h1 | h1
       · exact (h.2.1 r hr j hj).1 h1
       · have:=cZ.lt (h.1 r hr) j hj; omega,(h.2.1 r hr j hj).2⟩,h.2.2.1,
     fun f hf=>f.keep (h.2.2.2 f hf) (k.mono fun j hj=>.inl hj) fun j hj=>by
       rcases hj with hj | hj
       · rcases n j hj with h1 | h1
         · exact .inl (.inl h1)
         · exact .inr h1
       · exact .inl (.inr hj)⟩⟩
theorem St.snap (I:St W M T n G D F2 a w) (hY:St W M T n G2 (rs++D) F a w):St W M T n G D (rW W M rs F::F2) a w :=
  I.fact _ ⟨fun r hr=>hY.own r (mb _ hr),fun r hr k O=>⟨by
      rintro (hT | ⟨s,hs,hT⟩)
      · exact (hY.free r (mb _ hr) k O).1 hT
      · exact (lT.1 hY.apart).2.2 r hr s hs k O hT,(hY.free r (mb _ hr) k O).2⟩,(lT.1 hY.apart).1,
    fun f hf=>f.keep (hY.facts f hf) (aw _ _) fun k O=>.inl (by
      rcases O with (O | ⟨s,hs,O⟩) | ⟨r,hr,O⟩
      · exact .inl O
      · exact .inr ⟨s,ov _ hs,O⟩
      · exact .inr ⟨r,mb _ hr,O⟩)⟩
theorem St.thaw (I:St W M T n G D F a w) (i:Nat) (hi:F[i]? = some (rW W M rs F0)):St W M T n G (rs++D) F0 a w:=by
  obtain⟨h1,h2,h3,h4⟩:=(show (rW W M rs F0).p _ _ from I.get i hi);refine⟨I.size,I.defers,I.slots,I.base,fun r hr=>?_,fun r hr k O=>?_,lT.2 ⟨h3,I.apart,fun r hr s hs k O hk2=>(h2 r hr k O).1 (.inr ⟨s,hs,hk2⟩)⟩,fun f hf=>f.keep (h4 f hf) (aw _ _) fun k O=>.inl ?_,I.tlt⟩
  · rcases cM.1 hr with hr | hr
    · exact h1 r hr
    · exact I.own r hr
  · rcases cM.1 hr with hr | hr
    · exact⟨fun hT=>(h2 r hr k O).1 (.inl hT),(h2 r hr k O).2⟩
    · exact I.free r hr k O
  · rcases O with O | ⟨s,hs,O⟩
    · exact .inl (.inl O)
    · rcases cM.1 hs with hs | hs
      · exact .inr ⟨s,hs,O⟩
      · exact .inl (.inr ⟨s,hs,O⟩)
end
end
section
structure ae where
  k:Int
  x:ByteArray
def ah:aY ae where
  size:=2
  rel:=fun _ _ cs x=>cs=[.int .i64 x.k,.string x.x]
  len:=by rintro _ _ _ _ rfl; rfl
  one:=by rintro _ _ _ _ rfl; exact (oc rfl (oc rfl on))
  keep:=fun h _ _=>h
structure ar where
  b:ae
  t:ByteArray
  v:(List ae)
  l:Int
  u:Int
  a:Int
  y:Bool
def aa:aY ar where
  size:=8
  rel:=fun T w cs x=>∃ v1,cs=[.int .i64 x.b.k,.string x.b.x,.string x.t,v1,.int .i64 x.l,.int .i64 x.u,.int .i64 x.a,.bool x.y]/\aQ ah T w v1 x.v
  len:=by rintro _ _ _ _ ⟨v1,rfl,hv1⟩; rfl
  one:=by rintro _ _ _ _ ⟨v1,rfl,hv1⟩; exact (oc rfl (oc rfl (oc rfl (oc hv1.one (oc rfl (oc rfl (oc rfl (oc rfl on))))))))
  keep:=by rintro _ _ _ _ _ _ ⟨v1,rfl,hv1⟩ k n; exact⟨v1,rfl,hv1.keep k n⟩
structure be where
  b:ae
  t:ByteArray
  l:Int
def ad:aY be where
  size:=4
  rel:=fun _ _ cs x=>cs=[.int .i64 x.b.k,.string x.b.x,.string x.t,.int .i64 x.l]
  len:=by rintro _ _ _ _ rfl; rfl
  one:=by rintro _ _ _ _ rfl; exact (oc rfl (oc rfl (oc rfl (oc rfl on))))
  keep:=fun h _ _=>h
structure ap where
  r:Int
  i:(List be)
  s:(List ar)
theorem R0:aR aO 104=true:=by kernel_rfl
theorem R3:aR aO 108=true:=by kernel_rfl
theorem R4:aR aO 109=true:=by kernel_rfl
theorem R5:aR aO 110=true:=by kernel_rfl
theorem R6:aR aO 111=true:=by kernel_rfl
theorem R7:aR aO 112=true:=by kernel_rfl
theorem PF:aR aO 113=true:=by kernel_rfl
theorem Ew:aR aO 114=true:=by kernel_rfl
theorem PG:aR aO 117=true:=by kernel_rfl
theorem PH:aR aO 118=true:=by kernel_rfl
theorem Mc:aR aO 122=true:=by kernel_rfl
theorem PN:aR aO 146=true:=by kernel_rfl
theorem Sp:aR aO 154=true:=by kernel_rfl
theorem Sq:aR aO 155=true:=by kernel_rfl
theorem Sr:aR aO 156=true:=by kernel_rfl
theorem PR:aR aO 157=true:=by kernel_rfl
theorem PS:aR aO 158=true:=by kernel_rfl
theorem Ss:aR aO 159=true:=by kernel_rfl
theorem SI:aR aO 191=true:=by kernel_rfl
theorem SJ:aR aO 192=true:=by kernel_rfl
theorem SK:aR aO 193=true:=by kernel_rfl
theorem SO:aR aO 222=true:=by kernel_rfl
theorem SP:aR aO 223=true:=by kernel_rfl
theorem Mg:aR aO 33=true:=by kernel_rfl
theorem S3:aR aO 49=true:=by kernel_rfl
theorem Oj:aR aO 50=true:=by kernel_rfl
theorem KN:aR aO 51=true:=by kernel_rfl
theorem Oo:aR aO 87=true:=by kernel_rfl
theorem Mn:Bh aO 23=some (3,1,8):=by kernel_rfl
theorem FJ:Bh aO 34=some (88,4,48):=by kernel_rfl
theorem CA:Bh aO 35=some (78,8,96):=by kernel_rfl
theorem ol:Bh aO 59=some (27,2,24):=by kernel_rfl
theorem Th:Tryz.prog.underlying 207=some (.interface (Tryz.prog.methodsAt 207)):=by kernel_rfl
theorem mixed:Tryz.prog.follows .mixedOrders=true:=by kernel_rfl
theorem Ln:mr aO 23=some 3:=by kernel_rfl
theorem El:mr aO 34=some 88:=by kernel_rfl
theorem rG:mr aO 35=some 78:=by kernel_rfl
theorem nC:mr aO 59=some 27:=by kernel_rfl
theorem gB:qZ aO 27=some (true,2):=by kernel_rfl
theorem LG:qZ aO 3=some (false,1):=by kernel_rfl
theorem tU:qZ aO 37=some (true,3):=by kernel_rfl
theorem TR:qZ aO 4=some (false,1):=by kernel_rfl
theorem Vo:qZ aO 59=some (false,1):=by kernel_rfl
theorem pA:qZ aO 78=some (true,8):=by kernel_rfl
theorem Em:qZ aO 88=some (true,4):=by kernel_rfl
theorem Pd:qZ aO 9=some (false,1):=by kernel_rfl
theorem Uc:gR aO 3=some [.int .i64 0]:=by kernel_rfl
theorem vx:gR aO 37=some [.int .i64 0,.slice none 0 0,.slice none 0 0]:=by kernel_rfl
theorem jB:gR aO 78=some [.int .i64 0,.string cu,.string cu,.slice none 0 0,.int .i64 0,.int .i64 0,.int .i64 0,.bool false]:=by kernel_rfl
theorem A8:gR aO 88=some [.int .i64 0,.string cu,.string cu,.int .i64 0]:=by kernel_rfl
end
section
structure bH where
  L:(List Int)
  k1:Int
structure ci where
  b:ae
  t:ByteArray
def bw:aY ci where
  size:=3
  rel:=fun _ _ cs x=>cs=[.int .i64 x.b.k,.string x.b.x,.string x.t]
  len:=by rintro _ _ _ _ rfl; rfl
  one:=by rintro _ _ _ _ rfl; exact (oc rfl (oc rfl (oc rfl on)))
  keep:=fun h _ _=>h
structure dz where
  w:Bool
  v1:Bool
  N:Int
  d1:Int
def dV:aY dz where
  size:=4
  rel:=fun _ _ cs x=>cs=[.bool x.w,.bool x.v1,.int .i64 x.N,.int .i64 x.d1]
  len:=by rintro _ _ _ _ rfl; rfl
  one:=by rintro _ _ _ _ rfl; exact (oc rfl (oc rfl (oc rfl (oc rfl on))))
  keep:=fun h _ _=>h
structure aL where
  q:Bool
  c:(List dz)
  j:Int
  C:Int
def ay:aY aL where
  size:=4
  rel:=fun T w cs x=>∃ v1,cs=[.bool x.q,v1,.int .i64 x.j,.int .i64 x.C]/\aQ dV T w v1 x.c
  len:=by rintro _ _ _ _ ⟨v1,rfl,hv1⟩; rfl
  one:=by rintro _ _ _ _ ⟨v1,rfl,hv1⟩; exact (oc rfl (oc hv1.one (oc rfl (oc rfl on))))
  keep:=by rintro _ _ _ _ _ _ ⟨v1,rfl,hv1⟩ k n; exact⟨v1,rfl,hv1.keep k n⟩
theorem Uk:aR aO 10=true:=by kernel_rfl
theorem Oh:aR aO 11=true:=by kernel_rfl
theorem Sf:aR aO 129=true:=by kernel_rfl
theorem Un:aR aO 24=true:=by kernel_rfl
theorem rY:aR aO 32=true:=by kernel_rfl
theorem S7:aR aO 73=true:=by kernel_rfl
theorem UI:aR aO 75=true:=by kernel_rfl
theorem Cz:Bh aO 189=some (9,1,16):=by kernel_rfl
theorem QJ:Bh aO 33=some (68,4,48):=by kernel_rfl
theorem Ox:Bh aO 66=some (70,4,24):=by kernel_rfl
theorem QK:Bh aO 73=some (81,3,40):=by kernel_rfl
theorem CW:EQ aO 27=some [(0,1),(1,1)]:=by kernel_rfl
theorem Lc:EQ aO 68=some [(0,1),(1,1),(2,1),(3,1)]:=by kernel_rfl
theorem OV:EQ aO 70=some [(0,1),(1,1),(2,1),(3,1)]:=by kernel_rfl
theorem TB:EQ aO 81=some [(0,2),(2,1)]:=by kernel_rfl
theorem Ve:EQ aO 83=some [(0,1),(1,1)]:=by kernel_rfl
theorem H7:mr aO 189=some 9:=by kernel_rfl
theorem uM:mr aO 33=some 68:=by kernel_rfl
theorem O5:mr aO 66=some 70:=by kernel_rfl
theorem tV:qZ aO 68=some (true,4):=by kernel_rfl
theorem Pc:qZ aO 70=some (true,4):=by kernel_rfl
theorem Lt:qZ aO 81=some (true,3):=by kernel_rfl
theorem jV:gR aO 27=some [.int .i64 0,.string cu]:=by kernel_rfl
theorem Ah:gR aO 68=some [.bool false,.slice none 0 0,.int .i64 0,.int .i64 0]:=by kernel_rfl
theorem BV:gR aO 70=some [.bool false,.bool false,.int .i64 0,.int .i64 0]:=by kernel_rfl
theorem Gv:gR aO 81=some [.int .i64 0,.string cu,.string cu]:=by kernel_rfl
theorem Vu:gR aO 83=some [.slice none 0 0,.int .i64 0]:=by kernel_rfl
theorem Ug:gR aO 9=some [.string cu]:=by kernel_rfl
theorem Hm {W:World} {M T E:Nat->Prop} {n:Nat} {G:List (Nat×Value)} {D:List cZ} {F:List co} {a:Act} {w:World} {d:Option Nat} {t2:TypeId} {x y:Operand} {ty:TypeId} {pos:String} {af:Array Edge} {g:Option (Nat×Bool)} {p0 q0:Int} {p1 q1:ByteArray} (I:St W M T n G D F a w) (hx:ev G x=some (.agg #[.int .i64 p0,.string p1])) (hy:ev G y=some (.agg #[.int .i64 q0,.string q1])):Ye aO ⟨d,.binOp .eql 27 x y t2,ty,pos,af,g⟩ a E w (.bool (p0==q0&&p1.toList==q1.toList)) :=
  Ye.of fun w=>by
    have h1:=I.ev hx
    have h2:=I.ev hy
    clear I hx hy
    simp only [execOp,h1,h2,eqGuard]
    simp [go_sem]
    (repeat' split) <;> simp_all
theorem Bi {W:World} {M T E:Nat->Prop} {n:Nat} {G:List (Nat×Value)} {D:List cZ} {F:List co} {a:Act} {w:World} {d:Option Nat} {t2:TypeId} {x y:Operand} {ty:TypeId} {pos:String} {af:Array Edge} {g:Option (Nat×Bool)} {p0 q0:Int} {p1 q1:ByteArray} (I:St W M T n G D F a w) (hx:ev G x=some (.agg #[.int .i64 p0,.string p1])) (hy:ev G y=some (.agg #[.int .i64 q0,.string q1])):Ye aO ⟨d,.binOp .neq 27 x y t2,ty,pos,af,g⟩ a E w (.bool (!(p0==q0&&p1.toList==q1.toList))) :=
  Ye.of fun w=>by
    have h1:=I.ev hx
    have h2:=I.ev hy
    clear I hx hy
    simp only [execOp,h1,h2,eqGuard]
    simp [go_sem]
    (repeat' split) <;> simp_all
end
section
theorem Se:aR aO 125=true:=by kernel_rfl
theorem JK:aR aO 126=true:=by kernel_rfl
theorem PJ:aR aO 128=true:=by kernel_rfl
theorem Sg:aR aO 13=true:=by kernel_rfl
theorem zu:aR aO 130=true:=by kernel_rfl
theorem PL:aR aO 141=true:=by kernel_rfl
theorem Sw:aR aO 166=true:=by kernel_rfl
theorem SW:aR aO 30=true:=by kernel_rfl
theorem IU:aR aO 34=true:=by kernel_rfl
theorem Co:aR aO 35=true:=by kernel_rfl
theorem KM:aR aO 36=true:=by kernel_rfl
theorem IV:aR aO 67=true:=by kernel_rfl
theorem Om:aR aO 74=true:=by kernel_rfl
theorem UL:aR aO 80=true:=by kernel_rfl
theorem On:aR aO 86=true:=by kernel_rfl
theorem OW:EQ aO 88=some [(0,2),(2,1),(3,1)]:=by kernel_rfl
theorem Lo:mr aO 73=some 81:=by kernel_rfl
end
section
structure dD where
  r1:ae
  s1:ae
def kw:aY dD where
  size:=4
  rel:=fun _ _ cs x=>cs=[.int .i64 x.r1.k,.string x.r1.x,.int .i64 x.s1.k,.string x.s1.x]
  len:=by rintro _ _ _ _ rfl; rfl
  one:=by rintro _ _ _ _ rfl; exact (oc rfl (oc rfl (oc rfl (oc rfl on))))
  keep:=fun h _ _=>h
theorem IT:aR aO 12=true:=by kernel_rfl
theorem PI:aR aO 124=true:=by kernel_rfl
theorem PK:aR aO 139=true:=by kernel_rfl
theorem PU:aR aO 207=true:=by kernel_rfl
theorem PW:aR aO 208=true:=by kernel_rfl
theorem UF:aR aO 66=true:=by kernel_rfl
theorem wS:aR aO 68=true:=by kernel_rfl
theorem UG:aR aO 69=true:=by kernel_rfl
theorem S6:aR aO 71=true:=by kernel_rfl
theorem UJ:aR aO 76=true:=by kernel_rfl
theorem UK:aR aO 79=true:=by kernel_rfl
theorem PZ:Bh aO 216=some (220,4,48):=by kernel_rfl
theorem OA:KW aO 191 3=some 4:=by kernel_rfl
theorem OB:KW aO 191 4=some 5:=by kernel_rfl
theorem xj:J8 aO 119=some (27,4):=by kernel_rfl
theorem Tx:EQ aO 220=some [(0,2),(2,2)]:=by kernel_rfl
theorem Q1:EQ aO 78=some [(0,2),(2,1),(3,1),(4,1),(5,1),(6,1),(7,1)]:=by kernel_rfl
theorem TL:mr aO 140=some 191:=by kernel_rfl
theorem TN:qZ aO 140=some (false,1):=by kernel_rfl
theorem TO:qZ aO 142=some (true,7):=by kernel_rfl
theorem TP:qZ aO 189=some (false,1):=by kernel_rfl
theorem TQ:qZ aO 191=some (true,6):=by kernel_rfl
theorem NW:gR aO 220=some [.int .i64 0,.string cu,.int .i64 0,.string cu]:=by kernel_rfl
theorem Ry:Pt aO 4=some (.bool false):=by kernel_rfl
def aB (a b:ae):Bool:=a.k==b.k&&a.x.toList==b.x.toList
theorem dJ:Ai aO 27 ah true aB where
  check:=by
    rintro b T w0 w c x rfl
    show (Instr.checkKey b (Nat.succ (Nat.succ 9998)) 27 _).run aO w=_
    generalize 9998=N
    simp [Instr.checkKey,bF,go_sem]
  eq:=by
    rintro T T2 w0 w1 w c d x y rfl rfl
    unfold aB Op.equal
    show (Op.equalIn (Nat.succ (Nat.succ 9998)) 27 _ _).run aO w=_
    generalize 9998=N
    simp [Op.equalIn,bF,beq_toListBytes,go_sem]
    (try (repeat' split) <;> simp_all)
  now:=⟨_,Tryz.underlying27,by rintro T T2 w0 w1 c d x y rfl rfl; first | (exact .inl rfl) | (right; unfold aB; simp [bF,Instr.sameNow,beq_toListBytes])⟩
  bits:=by
    rintro T T2 w0 w1 c d x y rfl rfl h
    unfold aB at h
    show Instr.sameBits (Nat.succ (Nat.succ 9998)) _ _=_
    generalize 9998=N
    simp [bF,Instr.sameBits,beq_toListBytes] at h ⊢
    simp [h]
end
section
structure aA where
  g:(List aL)
  d:ap
  f:(List (ae×ByteArray))
  m:(List (ae×(List ae)))
structure uR where
  u1:Bool
  t:ByteArray
  t1:ae
theorem Sx:aR aO 167=true:=by kernel_rfl
theorem Sy:aR aO 168=true:=by kernel_rfl
theorem Cn:aR aO 172=true:=by kernel_rfl
theorem JN:aR aO 210=true:=by kernel_rfl
theorem PX:aR aO 211=true:=by kernel_rfl
theorem SR:aR aO 235=true:=by kernel_rfl
theorem SS:aR aO 236=true:=by kernel_rfl
theorem PY:aR aO 237=true:=by kernel_rfl
theorem Mf:aR aO 245=true:=by kernel_rfl
theorem SU:aR aO 277=true:=by kernel_rfl
theorem vd:J8 aO 181=some (27,9):=by kernel_rfl
theorem Tw:EQ aO 184=some [(0,1),(1,3),(4,1),(5,1)]:=by kernel_rfl
theorem zP:EQ aO 223=some [(0,1),(1,1),(2,2)]:=by kernel_rfl
theorem Qb:mr aO 216=some 220:=by kernel_rfl
theorem Ub:gR aO 184=some [.slice none 0 0,.int .i64 0,.slice none 0 0,.slice none 0 0,.map none,.map none]:=by kernel_rfl
theorem sB:gR aO 223=some [.bool false,.string cu,.int .i64 0,.string cu]:=by kernel_rfl
theorem Qj:Pt aO 9=some (.string cu):=by kernel_rfl
end
section
theorem PT:aR aO 169=true:=by kernel_rfl
theorem SB:aR aO 171=true:=by kernel_rfl
theorem SC:aR aO 173=true:=by kernel_rfl
theorem SD:aR aO 174=true:=by kernel_rfl
theorem SL:aR aO 209=true:=by kernel_rfl
theorem SN:aR aO 213=true:=by kernel_rfl
theorem UH:aR aO 70=true:=by kernel_rfl
theorem S8:aR aO 77=true:=by kernel_rfl
theorem NF:qZ aO 220=some (true,4):=by kernel_rfl
end
section
theorem Jf:EQ aO 37=some [(0,1),(1,1),(2,1)]:=by kernel_rfl
end
section
variable {pos:String} {af:Array Edge} {g:Option (Nat×Bool)}
section
variable {α β:Type} {RI:aY α} {R:aY β} {P:Nat->Prop} {W:World} {M T:Nat->Prop} {n:Nat} {G:List (Nat×Value)} {D D0 Dr rs:List cZ} {F F0 F1:List co} {a:Act} {w:World} {e:TypeId} {v1 v2:Value} {xs1:List α} {xs2:List β}
def sM (P:Nat->Prop) (F0:List co) (R:aY β) (e:TypeId) (v2:Value) (xs2:List β):co :=
  ⟨fun T w=>∃ cl,(cZ.own v2 e R.size cl).ok w/\(∀ k,(cZ.own v2 e R.size cl).dom k->¬ T k/\P k)/\bf R (dT T [.own v2 e R.size cl]) w cl xs2/\∀ f∈F0,f.p (dT T [.own v2 e R.size cl]) w,
   fun h k n=>by
    obtain⟨cl,h1,h2,h3,h4⟩:=h;have hn:∀ j,dT _ [.own v2 e R.size cl] j->dT _ [.own v2 e R.size cl] j∨_:=fun j hj=>by
      rcases hj with hj | hj
      · rcases n j hj with q | q
        · exact .inl (.inl q)
        · exact .inr q
      · exact .inl (.inr hj)
    exact⟨cl,cZ.keep h1 fun j hj=>k.block j (cZ.lt h1 j hj) (h2 j hj).1,fun j hj=>⟨fun hT=>by
      rcases n j hT with q | q
      · exact (h2 j hj).1 q
      · have:=cZ.lt h1 j hj; omega,(h2 j hj).2⟩,h3.keep (k.mono fun j hj=>.inl hj) hn,fun f hf=>f.keep (h4 f hf) (k.mono fun j hj=>.inl hj) hn⟩⟩
theorem St.zg {cl:bG} (I:St W M T n G D F a w) (hP:∀ k,M k∨W.heap.size<=k->P k) (F0:List co) (hF:GJ F F0) (i:Nat) (hi:D[i]? = some (.own v2 e R.size cl)) (j:Nat) (hj:F[j]? = some (au R cl xs2)) :
    St W M T n G (D.eraseIdx i) (aT R v2 xs2::sM P F0 R e v2 xs2::F) a w:=by
  have hm:=az hi;have h2:(sM P F0 R e v2 xs2).p (dT T (D.eraseIdx i)) w:=by
    have hn:∀ k,dT (dT T (D.eraseIdx i)) [.own v2 e R.size cl] k->dT T D k:=fun k O=>(uW hi k).1 O;refine⟨cl,I.own _ hm,fun k O=>⟨fun hT=>?_,hP k (I.free _ hm k O).2⟩,(show bf R (dT T D) w cl xs2 from I.get j hj).keep (aw _ _) fun k O=>.inl (hn k O),fun f hf=>f.keep (I.facts f (hF.mem f hf)) (aw _ _) fun k O=>.inl (hn k O)⟩;rcases hT with hT | ⟨s,hs,hT⟩
    · exact (I.free _ hm k O).1 hT
    · exact I.notD i hi O (.inr ⟨s,hs,hT⟩)
  have h3:=I.zf i hi j hj;refine⟨h3.size,h3.defers,h3.slots,h3.base,h3.own,h3.free,h3.apart,fun f hf=>?_,h3.tlt⟩;rcases bC.1 hf with rfl | hf
  · exact h3.facts _ dF
  · rcases bC.1 hf with rfl | hf
    · exact h2
    · exact h3.facts f (lp _ hf)
def Pv (F0:List co) (f:co):Prop:=∀ (T T':Nat->Prop) w,(∀ g∈F0,g.p T' w)->f.p T w->f.p T' w
theorem St.thawFr (I:St W M T n G D F a w) (i:Nat) (hi:F[i]? = some (sM P F0 R e v2 xs2)) (hP:∀ k,P k->M k∨W.heap.size<=k) (hF:∀ f∈F1,f∈F/\Pv F0 f) :
    ∃ cl,St W M T n G (.own v2 e R.size cl::D) (au R cl xs2::(F1++F0)) a w:=by
  obtain⟨cl,h1,h2,h3,h4⟩:=(show (sM P F0 R e v2 xs2).p _ _ from I.get i hi);have hn:∀ k,dT T (.own v2 e R.size cl::D) k->dT (dT T D) [.own v2 e R.size cl] k:=fun k O=>by
    rcases O with O | ⟨s,hs,O⟩
    · exact .inl (.inl O)
    · rcases bC.1 hs with rfl | hs
      · exact .inr ⟨_,dF,O⟩
      · exact .inl (.inr ⟨s,hs,O⟩)
  have h5:∀ f∈F0,f.p (dT T (.own v2 e R.size cl::D)) w:=fun f hf=>f.keep (h4 f hf) (aw _ _) fun k O=>.inl (hn k O);refine⟨cl,I.size,I.defers,I.slots,I.base,fun r hr=>?_,fun r hr k O=>?_,List.Pairwise.cons (fun s hs k O hk2=>(h2 k O).1 (.inr ⟨s,hs,hk2⟩)) I.apart,fun f hf=>?_,I.tlt⟩
  · rcases bC.1 hr with rfl | hr
    · exact h1
    · exact I.own r hr
  · rcases bC.1 hr with rfl | hr
    · exact⟨fun hT=>(h2 k O).1 (.inl hT),hP k (h2 k O).2⟩
    · exact I.free r hr k O
  · rcases bC.1 hf with rfl | hf
    · exact h3.keep (aw _ _) fun k O=>.inl (hn k O)
    · rcases cM.1 hf with hf | hf
      · exact (hF f hf).2 _ _ _ h5 (I.facts f (hF f hf).1)
      · exact h5 f hf
theorem St.toP (I:St W M T n G (D0++Dr) F a w) (hP:∀ k,M k∨W.heap.size<=k->P k):∀ k,MD D0 k∨w.heap.size<=k->P k:=fun k O=>hP k (by
  rcases O with⟨r,hr,O⟩ | O
  · exact (I.free r (mb _ hr) k O).2
  · exact .inr (du I.base.size O))
theorem co.lent {i:Nat} {r:cZ} (f:co) (hi:D[i]? = some r) (h:f.p (dT T D) w):f.p (dT (dT T (D.eraseIdx i)) [r]) w :=
  f.keep h (aw _ _) fun k O=>.inl ((uW hi k).1 O)
theorem co.back {i:Nat} {r r':cZ} (f:co) (hi:D[i]? = some r) (h:f.p (dT (dT T (D.eraseIdx i)) [r']) w):f.p (dT T (D.set i r')) w:=by
  refine f.keep h (aw _ _) fun k O=>.inl ?_;have hl:=(bR.1 hi).1;have:=(uW (T:=T) (D:=D.set i r') (i:=i) (r:=r') (by rw [Ag hl]) k).2 O;rwa [List.eraseIdx_set_eq] at this
theorem co.up (f:co) (hi:N0 D rs) (h:f.p (dT T D) w):f.p (dT T rs) w:=f.keep h (aw _ _) fun k O=>.inl (hi.sub k O)
theorem Hp {R:aY β} (C:∀ (T T':Nat->Prop) w c x,R.rel T w c x->R.rel T' w c x) {cl:bG} {xs:List β}:Pv F0 (au R cl xs):=by
  intro T T' w _ h;have h:bf R T w cl xs:=h;exact⟨h.1,fun k x hx=>by obtain⟨cs,h1,h2⟩:=h.2 k x hx; exact⟨cs,C _ _ _ _ _ h1,h2⟩⟩
end
section
variable {P:Program} {W:World} {M T E:Nat->Prop} {n:Nat} {G G':List (Nat×Value)} {D D' D0 Dr rs:List cZ} {F F':List co} {a:Act} {w w':World} {K:Act->World->Prop}
theorem zI {d:Nat} {ty:TypeId} {x:Operand} {args:Array Operand} {tys:Array TypeId} {f:Nat} {vs cap:bG} {R:Value->World->Prop} (I:St W M T n G (D0++Dr) F a w) (hx:ev G x=some (.func (.func f) #[] cap.toArray)) (hf:aR P f=true) (hargs:evs G args.toList=some vs) (hn:Nat.blt d n=true) (hc:bm P (MD D0) f (vs++cap) w R)
    (k:∀ v w',R v w'->∀ a,Kt (MD D0) w w'->(∀ rs,kl w w' D0 rs->St W M T n ((d,v)::G) (rs++Dr) F a w')->K a w'):t8 P ⟨some d,.call { callee:=.value x,args:=args,argTypes:=tys },ty,pos,af,g⟩ a w K :=
  xO rfl I hx hf hargs hc fun v w' O hr=>k v w' hr _ O (fun rs h=>(I.swapD O h).put hn v)
end
end
section
structure aM where
  S:aA
  B:ap
  e:(List (ae×Bool))
  z:(List ae)
  E:Int
theorem Sh:aR aO 131=true:=by kernel_rfl
theorem Si:aR aO 132=true:=by kernel_rfl
theorem SA:aR aO 170=true:=by kernel_rfl
theorem QE:aR aO 78=true:=by kernel_rfl
theorem M0:EQ aO 136=some [(0,1),(1,3),(4,1),(5,1),(6,1)]:=by kernel_rfl
theorem Qc:qZ aO 133=some (false,1):=by kernel_rfl
theorem TU:qZ aO 54=some (false,1):=by kernel_rfl
theorem NV:gR aO 136=some [.pointer none,.int .i64 0,.slice none 0 0,.slice none 0 0,.map none,.slice none 0 0,.int .i64 0]:=by kernel_rfl
end
section
theorem Uo:aR aO 25=true:=by kernel_rfl
theorem QB:aR aO 26=true:=by kernel_rfl
theorem ST:aR aO 27=true:=by kernel_rfl
theorem QC:aR aO 28=true:=by kernel_rfl
theorem SV:aR aO 29=true:=by kernel_rfl
end
section
structure aE where
  o:Int
  p:Int
def bP:aY aE where
  size:=2
  rel:=fun _ _ cs x=>cs=[.int .i64 x.o,.int .u64 x.p]
  len:=by rintro _ _ _ _ rfl; rfl
  one:=by rintro _ _ _ _ rfl; exact (oc rfl (oc rfl on))
  keep:=fun h _ _=>h
structure bM where
  b:ae
  h:aE
def a8:aY bM where
  size:=4
  rel:=fun _ _ cs x=>cs=[.int .i64 x.b.k,.string x.b.x,.int .i64 x.h.o,.int .u64 x.h.p]
  len:=by rintro _ _ _ _ rfl; rfl
  one:=by rintro _ _ _ _ rfl; exact (oc rfl (oc rfl (oc rfl (oc rfl on))))
  keep:=fun h _ _=>h
structure ac where
  b:ae
  v:(List bM)
  t:ByteArray
  a:Int
def ai:aY ac where
  size:=5
  rel:=fun T w cs x=>∃ v1,cs=[.int .i64 x.b.k,.string x.b.x,v1,.string x.t,.int .i64 x.a]/\aQ a8 T w v1 x.v
  len:=by rintro _ _ _ _ ⟨v1,rfl,hv1⟩; rfl
  one:=by rintro _ _ _ _ ⟨v1,rfl,hv1⟩; exact (oc rfl (oc rfl (oc hv1.one (oc rfl (oc rfl on)))))
  keep:=by rintro _ _ _ _ _ _ ⟨v1,rfl,hv1⟩ k n; exact⟨v1,rfl,hv1.keep k n⟩
theorem Ev:aR aO 106=true:=by kernel_rfl
theorem R1:aR aO 107=true:=by kernel_rfl
theorem R8:aR aO 115=true:=by kernel_rfl
theorem R9:aR aO 116=true:=by kernel_rfl
theorem Sa:aR aO 119=true:=by kernel_rfl
theorem Sb:aR aO 120=true:=by kernel_rfl
theorem Sc:aR aO 121=true:=by kernel_rfl
theorem Sd:aR aO 123=true:=by kernel_rfl
theorem Sk:aR aO 142=true:=by kernel_rfl
theorem G0:aR aO 148=true:=by kernel_rfl
theorem PO:aR aO 149=true:=by kernel_rfl
theorem PP:aR aO 150=true:=by kernel_rfl
theorem PQ:aR aO 151=true:=by kernel_rfl
theorem So:aR aO 152=true:=by kernel_rfl
theorem Md:aR aO 153=true:=by kernel_rfl
theorem Ul:aR aO 16=true:=by kernel_rfl
theorem Su:aR aO 162=true:=by kernel_rfl
theorem Sv:aR aO 163=true:=by kernel_rfl
theorem SE:aR aO 186=true:=by kernel_rfl
theorem SF:aR aO 187=true:=by kernel_rfl
theorem JM:aR aO 189=true:=by kernel_rfl
theorem SH:aR aO 190=true:=by kernel_rfl
theorem Um:aR aO 20=true:=by kernel_rfl
theorem Uq:aR aO 40=true:=by kernel_rfl
theorem SY:aR aO 41=true:=by kernel_rfl
theorem S4:aR aO 54=true:=by kernel_rfl
theorem S5:aR aO 55=true:=by kernel_rfl
theorem Uw:aR aO 56=true:=by kernel_rfl
theorem UP:aR aO 91=true:=by kernel_rfl
theorem Bg:Bh aO 156=some (5,1,1):=by kernel_rfl
theorem qW:Bh aO 22=some (30,5,72):=by kernel_rfl
theorem I0:Bh aO 28=some (49,4,40):=by kernel_rfl
theorem Ty:EQ aO 30=some [(0,2),(2,1),(3,1),(4,1)]:=by kernel_rfl
theorem Tz:EQ aO 47=some [(0,1),(1,1)]:=by kernel_rfl
theorem TA:EQ aO 49=some [(0,2),(2,2)]:=by kernel_rfl
theorem wJ:mr aO 22=some 30:=by kernel_rfl
theorem Ej:mr aO 28=some 49:=by kernel_rfl
theorem Vn:qZ aO 28=some (false,1):=by kernel_rfl
theorem s7:qZ aO 30=some (true,5):=by kernel_rfl
theorem Rg:qZ aO 45=some (false,1):=by kernel_rfl
theorem TS:qZ aO 47=some (true,2):=by kernel_rfl
theorem Gf:qZ aO 49=some (true,4):=by kernel_rfl
theorem rH:gR aO 30=some [.int .i64 0,.string cu,.slice none 0 0,.string cu,.int .i64 0]:=by kernel_rfl
theorem ID:gR aO 47=some [.int .i64 0,.int .u64 0]:=by kernel_rfl
theorem Ep:gR aO 49=some [.int .i64 0,.string cu,.int .i64 0,.int .u64 0]:=by kernel_rfl
theorem Vt:gR aO 5=some [.int .u8 0]:=by kernel_rfl
end
section
structure cg where
  b1:(List Int)
theorem PD:aR aO 100=true:=by kernel_rfl
theorem PE:aR aO 101=true:=by kernel_rfl
theorem RY:aR aO 102=true:=by kernel_rfl
theorem Oi:aR aO 43=true:=by kernel_rfl
theorem Ol:aR aO 65=true:=by kernel_rfl
theorem KO:aR aO 94=true:=by kernel_rfl
theorem US:aR aO 95=true:=by kernel_rfl
theorem UT:aR aO 96=true:=by kernel_rfl
theorem S9:aR aO 97=true:=by kernel_rfl
theorem UU:aR aO 98=true:=by kernel_rfl
theorem UW:aR aO 99=true:=by kernel_rfl
theorem Tc:Bh aO 198=some (45,1,8):=by kernel_rfl
theorem Tv:EQ aO 158=some [(0,1)]:=by kernel_rfl
theorem Qa:mr aO 198=some 45:=by kernel_rfl
theorem Qd:qZ aO 155=some (false,1):=by kernel_rfl
theorem T9:gR aO 155=some [.pointer none]:=by kernel_rfl
theorem Ua:gR aO 158=some [.slice none 0 0]:=by kernel_rfl
theorem Vs:gR aO 45=some [.int .u64 0]:=by kernel_rfl
end
section
structure dU where
  d:ap
  n:(List (ae×aE))
theorem Sm:aR aO 143=true:=by kernel_rfl
theorem QD:aR aO 38=true:=by kernel_rfl
theorem SX:aR aO 39=true:=by kernel_rfl
theorem SZ:aR aO 42=true:=by kernel_rfl
theorem Ux:aR aO 57=true:=by kernel_rfl
theorem Uy:aR aO 58=true:=by kernel_rfl
theorem Uz:aR aO 59=true:=by kernel_rfl
theorem UA:aR aO 60=true:=by kernel_rfl
theorem UB:aR aO 61=true:=by kernel_rfl
theorem UC:aR aO 62=true:=by kernel_rfl
theorem UD:aR aO 63=true:=by kernel_rfl
theorem UE:aR aO 64=true:=by kernel_rfl
theorem UM:aR aO 88=true:=by kernel_rfl
theorem UN:aR aO 89=true:=by kernel_rfl
theorem UO:aR aO 90=true:=by kernel_rfl
theorem OM:J8 aO 92=some (27,47):=by kernel_rfl
theorem Vf:EQ aO 94=some [(0,3),(3,1)]:=by kernel_rfl
theorem TV:qZ aO 92=some (false,1):=by kernel_rfl
theorem T8:gR aO 119=some [.map none]:=by kernel_rfl
theorem NX:gR aO 94=some [.int .i64 0,.slice none 0 0,.slice none 0 0,.map none]:=by kernel_rfl
theorem Vv:Pt aO 47=some (.agg #[.int .i64 0,.int .u64 0]):=by kernel_rfl
theorem Te {W:World} {M T E:Nat->Prop} {n:Nat} {G:List (Nat×Value)} {D:List cZ} {F:List co} {a:Act} {w:World} {d:Option Nat} {t2:TypeId} {x y:Operand} {ty:TypeId} {pos:String} {af:Array Edge} {g:Option (Nat×Bool)} {p0 q0:Int} {p1 q1:Int} (I:St W M T n G D F a w) (hx:ev G x=some (.agg #[.int .i64 p0,.int .u64 p1])) (hy:ev G y=some (.agg #[.int .i64 q0,.int .u64 q1])):Ye aO ⟨d,.binOp .neq 47 x y t2,ty,pos,af,g⟩ a E w (.bool (!(p0==q0&&p1==q1))) :=
  Ye.of fun w=>by
    have h1:=I.ev hx
    have h2:=I.ev hy
    clear I hx hy
    simp only [execOp,h1,h2,eqGuard]
    simp [go_sem]
    (repeat' split) <;> simp_all
end
section
structure aj where
  X:ac
  i1:ByteArray
def aD:aY aj where
  size:=6
  rel:=fun T w cs x=>∃ v1,cs=[.int .i64 x.X.b.k,.string x.X.b.x,v1,.string x.X.t,.int .i64 x.X.a,.string x.i1]/\aQ a8 T w v1 x.X.v
  len:=by rintro _ _ _ _ ⟨v1,rfl,hv1⟩; rfl
  one:=by rintro _ _ _ _ ⟨v1,rfl,hv1⟩; exact (oc rfl (oc rfl (oc hv1.one (oc rfl (oc rfl (oc rfl on))))))
  keep:=by rintro _ _ _ _ _ _ ⟨v1,rfl,hv1⟩ k n; exact⟨v1,rfl,hv1.keep k n⟩
theorem JL:aR aO 145=true:=by kernel_rfl
theorem SG:aR aO 188=true:=by kernel_rfl
theorem Me:aR aO 221=true:=by kernel_rfl
theorem UQ:aR aO 92=true:=by kernel_rfl
theorem UR:aR aO 93=true:=by kernel_rfl
theorem Hl:Bh aO 103=some (108,6,88):=by kernel_rfl
theorem gc:mr aO 103=some 108:=by kernel_rfl
theorem Rc:mr aO 58=some 22:=by kernel_rfl
theorem cC:qZ aO 108=some (true,6):=by kernel_rfl
theorem Rf:qZ aO 22=some (false,1):=by kernel_rfl
theorem Fn:gR aO 108=some [.int .i64 0,.string cu,.slice none 0 0,.string cu,.int .i64 0,.string cu]:=by kernel_rfl
end
section
theorem RZ:aR aO 103=true:=by kernel_rfl
theorem Sj:aR aO 14=true:=by kernel_rfl
theorem PM:aR aO 144=true:=by kernel_rfl
theorem Sn:aR aO 15=true:=by kernel_rfl
theorem Sz:aR aO 17=true:=by kernel_rfl
theorem QA:aR aO 19=true:=by kernel_rfl
theorem SM:aR aO 21=true:=by kernel_rfl
theorem Up:aR aO 37=true:=by kernel_rfl
theorem Ur:aR aO 44=true:=by kernel_rfl
theorem S0:aR aO 45=true:=by kernel_rfl
theorem S1:aR aO 46=true:=by kernel_rfl
theorem Us:aR aO 47=true:=by kernel_rfl
theorem Ut:aR aO 48=true:=by kernel_rfl
theorem VS:aR aO 5=true:=by kernel_rfl
theorem Uu:aR aO 52=true:=by kernel_rfl
theorem Uv:aR aO 53=true:=by kernel_rfl
theorem VA:aR aO 6=true:=by kernel_rfl
theorem VT:aR aO 7=true:=by kernel_rfl
theorem VU:aR aO 9=true:=by kernel_rfl
theorem U1:Bh aO 58=some (22,1,24):=by kernel_rfl
theorem P6:EQ aO 108=some [(0,5),(5,1)]:=by kernel_rfl
theorem Vj:mr aO 57=some 37:=by kernel_rfl
theorem Vr:gR aO 22=some [.slice none 0 0]:=by kernel_rfl
theorem Tf {W:World} {M T E:Nat->Prop} {n:Nat} {G:List (Nat×Value)} {D:List cZ} {F:List co} {a:Act} {w:World} {d:Option Nat} {t2:TypeId} {x y:Operand} {ty:TypeId} {pos:String} {af:Array Edge} {g:Option (Nat×Bool)} {p0 q0:Int} {p1 q1:ByteArray} {p2 q2:Int} {p3 q3:Int} (I:St W M T n G D F a w) (hx:ev G x=some (.agg #[.int .i64 p0,.string p1,.int .i64 p2,.int .u64 p3])) (hy:ev G y=some (.agg #[.int .i64 q0,.string q1,.int .i64 q2,.int .u64 q3])):Ye aO ⟨d,.binOp .neq 49 x y t2,ty,pos,af,g⟩ a E w (.bool (!(p0==q0&&p1.toList==q1.toList&&p2==q2&&p3==q3))) :=
  Ye.of fun w=>by
    have h1:=I.ev hx
    have h2:=I.ev hy
    clear I hx hy
    simp only [execOp,h1,h2,eqGuard]
    simp [go_sem]
    (repeat' split) <;> simp_all
end
section
variable {A B:Prop} {S:Type} {k:Nat} {p:Int} {r:cZ} {v0 v1 v10 v3 v4 v5 v6 v7 v8 v9:Value} {w':World}
variable {pos:String} {af:Array Edge} {g:Option (Nat×Bool)}
class ua (P:Program) (t:TypeId) (b:outParam Bool) (z:outParam Nat):Prop where
 h:qZ P t=some (b,z)
class oX (P:Program) (s:TypeId) (f:Nat) (k:outParam Nat):Prop where
 h:KW P s f=some k
class Gy (P:Program) (t:TypeId) (e:outParam TypeId):Prop where
 h:mr P t=some e
class Pz (P:Program) (t:TypeId) (u:outParam TypeDesc):Prop where
 h:P.underlying t=some u
theorem fD {D:List co} {r:co} (h:∃ i:Nat,D[i]? = some r:=by first | exact⟨0,rfl⟩ | exact⟨1,rfl⟩ | exact⟨2,rfl⟩ | exact⟨3,rfl⟩ | exact⟨4,rfl⟩ | exact⟨5,rfl⟩ | exact⟨6,rfl⟩ | exact⟨7,rfl⟩ | exact⟨8,rfl⟩ | exact⟨9,rfl⟩ | exact⟨10,rfl⟩ | exact⟨11,rfl⟩ | exact⟨12,rfl⟩ | exact⟨13,rfl⟩ | exact⟨14,rfl⟩ | exact⟨15,rfl⟩ | exact⟨16,rfl⟩ | exact⟨17,rfl⟩ | exact⟨18,rfl⟩ | exact⟨19,rfl⟩ | exact⟨20,rfl⟩ | exact⟨21,rfl⟩ | exact⟨22,rfl⟩ | exact⟨23,rfl⟩ | exact⟨24,rfl⟩ | exact⟨25,rfl⟩ | exact⟨26,rfl⟩ | exact⟨27,rfl⟩ | exact⟨28,rfl⟩ | exact⟨29,rfl⟩):∃ i:Nat,D[i]? = some r:=h
theorem fR {D:List cZ} (h:∃ i:Nat,D[i]? = some r:=by first | exact⟨0,rfl⟩ | exact⟨1,rfl⟩ | exact⟨2,rfl⟩ | exact⟨3,rfl⟩ | exact⟨4,rfl⟩ | exact⟨5,rfl⟩ | exact⟨6,rfl⟩ | exact⟨7,rfl⟩ | exact⟨8,rfl⟩ | exact⟨9,rfl⟩ | exact⟨10,rfl⟩ | exact⟨11,rfl⟩ | exact⟨12,rfl⟩ | exact⟨13,rfl⟩ | exact⟨14,rfl⟩ | exact⟨15,rfl⟩ | exact⟨16,rfl⟩ | exact⟨17,rfl⟩ | exact⟨18,rfl⟩ | exact⟨19,rfl⟩ | exact⟨20,rfl⟩ | exact⟨21,rfl⟩ | exact⟨22,rfl⟩ | exact⟨23,rfl⟩ | exact⟨24,rfl⟩ | exact⟨25,rfl⟩ | exact⟨26,rfl⟩ | exact⟨27,rfl⟩ | exact⟨28,rfl⟩ | exact⟨29,rfl⟩):∃ i:Nat,D[i]? = some r:=h
theorem y6 (i:Nat) {D:List cZ} {r:Option cZ} (h:D[i]? = r):D[i]? = r:=h
theorem fI {D:List cZ} {i:Nat} (h:D[i]? = some r:=by first | (refine y6 0 ?_; exact rfl) | (refine y6 1 ?_; exact rfl) | (refine y6 2 ?_; exact rfl) | (refine y6 3 ?_; exact rfl) | (refine y6 4 ?_; exact rfl) | (refine y6 5 ?_; exact rfl) | (refine y6 6 ?_; exact rfl) | (refine y6 7 ?_; exact rfl) | (refine y6 8 ?_; exact rfl) | (refine y6 9 ?_; exact rfl) | (refine y6 10 ?_; exact rfl) | (refine y6 11 ?_; exact rfl) | (refine y6 12 ?_; exact rfl) | (refine y6 13 ?_; exact rfl) | (refine y6 14 ?_; exact rfl) | (refine y6 15 ?_; exact rfl) | (refine y6 16 ?_; exact rfl) | (refine y6 17 ?_; exact rfl) | (refine y6 18 ?_; exact rfl) | (refine y6 19 ?_; exact rfl) | (refine y6 20 ?_; exact rfl) | (refine y6 21 ?_; exact rfl) | (refine y6 22 ?_; exact rfl) | (refine y6 23 ?_; exact rfl) | (refine y6 24 ?_; exact rfl) | (refine y6 25 ?_; exact rfl) | (refine y6 26 ?_; exact rfl) | (refine y6 27 ?_; exact rfl) | (refine y6 28 ?_; exact rfl) | (refine y6 29 ?_; exact rfl)):D[i]? = some r:=h
theorem kn {c b:Bool} (h:c=b:=by first | assumption | exact rfl | exact nt (by assumption) | exact nf (by assumption)):c=b:=h
def Tk (Z o:Nat) (cs us:bG):Prop:=(cs.drop o).take Z=us/\us.length=Z
def Cl (Z:Nat) (v:Value) (us:bG):Prop:=v.cells.toList=us/\us.length=Z
theorem Ws {o:Nat} {cs:bG} (h:(cs.drop o).take 1=[v0]):Tk 1 o cs [v0]:=⟨h,rfl⟩
theorem VB {v:Value} (h:v.cells.toList=[v0]):Cl 1 v [v0]:=⟨h,rfl⟩
theorem Wt {o:Nat} {cs:bG} (h:(cs.drop o).take 2=[v0,v1]):Tk 2 o cs [v0,v1]:=⟨h,rfl⟩
theorem dm {v:Value} (h:v.cells.toList=[v0,v1]):Cl 2 v [v0,v1]:=⟨h,rfl⟩
theorem Wu {o:Nat} {cs:bG} {v2:Value} (h:(cs.drop o).take 3=[v0,v1,v2]):Tk 3 o cs [v0,v1,v2]:=⟨h,rfl⟩
theorem eK {v v2:Value} (h:v.cells.toList=[v0,v1,v2]):Cl 3 v [v0,v1,v2]:=⟨h,rfl⟩
theorem Wv {o:Nat} {cs:bG} {v2:Value} (h:(cs.drop o).take 4=[v0,v1,v2,v3]):Tk 4 o cs [v0,v1,v2,v3]:=⟨h,rfl⟩
theorem rJ {v v2:Value} (h:v.cells.toList=[v0,v1,v2,v3]):Cl 4 v [v0,v1,v2,v3]:=⟨h,rfl⟩
theorem Ww {o:Nat} {cs:bG} {v2:Value} (h:(cs.drop o).take 5=[v0,v1,v2,v3,v4]):Tk 5 o cs [v0,v1,v2,v3,v4]:=⟨h,rfl⟩
theorem zv {v v2:Value} (h:v.cells.toList=[v0,v1,v2,v3,v4]):Cl 5 v [v0,v1,v2,v3,v4]:=⟨h,rfl⟩
theorem Wx {o:Nat} {cs:bG} {v2:Value} (h:(cs.drop o).take 6=[v0,v1,v2,v3,v4,v5]):Tk 6 o cs [v0,v1,v2,v3,v4,v5]:=⟨h,rfl⟩
theorem KP {v v2:Value} (h:v.cells.toList=[v0,v1,v2,v3,v4,v5]):Cl 6 v [v0,v1,v2,v3,v4,v5]:=⟨h,rfl⟩
theorem Wy {o:Nat} {cs:bG} {v2:Value} (h:(cs.drop o).take 7=[v0,v1,v2,v3,v4,v5,v6]):Tk 7 o cs [v0,v1,v2,v3,v4,v5,v6]:=⟨h,rfl⟩
theorem y5 {v v2:Value} (h:v.cells.toList=[v0,v1,v2,v3,v4,v5,v6]):Cl 7 v [v0,v1,v2,v3,v4,v5,v6]:=⟨h,rfl⟩
theorem Wz {o:Nat} {cs:bG} {v2:Value} (h:(cs.drop o).take 8=[v0,v1,v2,v3,v4,v5,v6,v7]):Tk 8 o cs [v0,v1,v2,v3,v4,v5,v6,v7]:=⟨h,rfl⟩
theorem Rw {v v2:Value} (h:v.cells.toList=[v0,v1,v2,v3,v4,v5,v6,v7]):Cl 8 v [v0,v1,v2,v3,v4,v5,v6,v7]:=⟨h,rfl⟩
theorem WA {o:Nat} {cs:bG} {v2:Value} (h:(cs.drop o).take 9=[v0,v1,v2,v3,v4,v5,v6,v7,v8]):Tk 9 o cs [v0,v1,v2,v3,v4,v5,v6,v7,v8]:=⟨h,rfl⟩
theorem Rx {v v2:Value} (h:v.cells.toList=[v0,v1,v2,v3,v4,v5,v6,v7,v8]):Cl 9 v [v0,v1,v2,v3,v4,v5,v6,v7,v8]:=⟨h,rfl⟩
theorem Vk {o:Nat} {cs:bG} {v2:Value} (h:(cs.drop o).take 10=[v0,v1,v2,v3,v4,v5,v6,v7,v8,v9]):Tk 10 o cs [v0,v1,v2,v3,v4,v5,v6,v7,v8,v9]:=⟨h,rfl⟩
theorem UX {v v2:Value} (h:v.cells.toList=[v0,v1,v2,v3,v4,v5,v6,v7,v8,v9]):Cl 10 v [v0,v1,v2,v3,v4,v5,v6,v7,v8,v9]:=⟨h,rfl⟩
theorem Vl {o:Nat} {cs:bG} {v2:Value} (h:(cs.drop o).take 11=[v0,v1,v2,v3,v4,v5,v6,v7,v8,v9,v10]):Tk 11 o cs [v0,v1,v2,v3,v4,v5,v6,v7,v8,v9,v10]:=⟨h,rfl⟩
theorem UY {v v2:Value} (h:v.cells.toList=[v0,v1,v2,v3,v4,v5,v6,v7,v8,v9,v10]):Cl 11 v [v0,v1,v2,v3,v4,v5,v6,v7,v8,v9,v10]:=⟨h,rfl⟩
theorem Vm {o:Nat} {cs:bG} {v2 v11:Value} (h:(cs.drop o).take 12=[v0,v1,v2,v3,v4,v5,v6,v7,v8,v9,v10,v11]):Tk 12 o cs [v0,v1,v2,v3,v4,v5,v6,v7,v8,v9,v10,v11]:=⟨h,rfl⟩
theorem UZ {v v2 v11:Value} (h:v.cells.toList=[v0,v1,v2,v3,v4,v5,v6,v7,v8,v9,v10,v11]):Cl 12 v [v0,v1,v2,v3,v4,v5,v6,v7,v8,v9,v10,v11]:=⟨h,rfl⟩
theorem VL {Z o:Nat} {cs us:bG} (h:Tk Z o cs us:=by first | ((with_reducible apply Ws); exact rfl) | ((with_reducible apply Wt); exact rfl) | ((with_reducible apply Wu); exact rfl) | ((with_reducible apply Wv); exact rfl) | ((with_reducible apply Ww); exact rfl) | ((with_reducible apply Wx); exact rfl) | ((with_reducible apply Wy); exact rfl) | ((with_reducible apply Wz); exact rfl) | ((with_reducible apply WA); exact rfl) | ((with_reducible apply Vk); exact rfl) | ((with_reducible apply Vl); exact rfl) | ((with_reducible apply Vm); exact rfl)):Tk Z o cs us:=h
theorem U9 {W:World} {M T:Nat->Prop} {n:Nat} {G:List (Nat×Value)} {D:List cZ} {F:List co} {v:Value} {a:Act} {w:World} {e:TypeId} {sz:Nat} {cl:bG} (I:St W M T n G D F a w) (h:∃ i:Nat,D[i]? = some (.own v e sz cl)):v.oneCell'=true:=F4 (I.own _ (az h.choose_spec)).1
theorem Va {W:World} {M T:Nat->Prop} {n:Nat} {G:List (Nat×Value)} {D:List cZ} {F:List co} {v:Value} {a:Act} {w:World} {α:Type} {R:aY α} {xs:List α} (I:St W M T n G D F a w) (h:∃ i:Nat,F[i]? = some (aT R v xs)):v.oneCell'=true:=aQ.one (I.get h.choose h.choose_spec:aQ R _ _ _ _)
theorem Tt {v:Value} (h:v.oneCell'=true:=by first | exact rfl | exact U9 I fR | exact Va I fD):v.oneCell'=true:=h
theorem QF {Z:Nat} {v:Value} {us:bG} (h:Cl Z v us:=by first | ((with_reducible apply VB); exact rfl) | ((with_reducible apply dm); exact rfl) | ((with_reducible apply eK); exact rfl) | ((with_reducible apply rJ); exact rfl) | ((with_reducible apply zv); exact rfl) | ((with_reducible apply KP); exact rfl) | ((with_reducible apply y5); exact rfl) | ((with_reducible apply Rw); exact rfl) | ((with_reducible apply Rx); exact rfl) | ((with_reducible apply UX); exact rfl) | ((with_reducible apply UY); exact rfl) | ((with_reducible apply UZ); exact rfl) | ((with_reducible apply VB); exact vD Tt)):Cl Z v us:=h
theorem Tr {us:bG} (h:∀ u∈us,u.oneCell'=true:=by repeat (first | exact on | refine oc Tt ?_)):∀ u∈us,u.oneCell'=true:=h
def SQ (P:Program) (z:Code) (Q:Exit->Act->World->Prop):Exit->Act->World->Prop:=Exit.then (z.wp P Q) Q
section
variable {P:Program} {W:World} {M T:Nat->Prop} {n:Nat} {F:List co}
def Yv (P:Program) (W:World) (M T:Nat->Prop) (n:Nat) (G:List (Nat×Value)) (D:List cZ) (F:List co) (E:Nat->Prop) (op:Op) (v:Value):Prop :=
 ∀ a w d ty pos af g,St W M T n G D F a w->Ye P ⟨d,op,ty,pos,af,g⟩ a E w v
section
variable {G:List (Nat×Value)} {D:List cZ} {E:Nat->Prop} {x y z:Operand} {v:Value} {t t' s:TypeId}
theorem Yv.mv (hx:ev G x=some v):Yv P W M T n G D F E (.move x) v:=fun _ _ _ _ _ _ _ I=>Rp I hx
theorem Yv.as (hx:ev G x=some v):Yv P W M T n G D F E (.assign x) v:=fun _ _ _ _ _ _ _ I=>NO I hx
theorem Yv.bi {op:BinOp} {k:IntKind} {q:Int} (hx:ev G x=some (.int k p)) (hy:ev G y=some (.int k q)) (hv:QN op k p q=some v):Yv P W M T n G D F E (.binOp op t x y t') v:=fun _ _ _ _ _ _ _ I=>TZ I hx hy hv
theorem Yv.bs {op:BinOp} {p q:ByteArray} (hx:ev G x=some (.string p)) (hy:ev G y=some (.string q)) (hv:Ra op p q=some v):Yv P W M T n G D F E (.binOp op t x y t') v:=fun _ _ _ _ _ _ _ I=>T7 I hx hy hv
theorem Yv.no {b:Bool} (hx:ev G x=some (.bool b)):Yv P W M T n G D F E (.unOp .not t x) (.bool !b):=fun _ _ _ _ _ _ _ I=>T5 I hx
theorem Yv.ng {k:IntKind} (hx:ev G x=some (.int k p)):Yv P W M T n G D F E (.unOp .neg t x) (.int k (k.wrap (0-p))):=fun _ _ _ _ _ _ _ I=>T3 I hx
theorem Yv.ex {i:Nat} {vs:Array Value} (hx:ev G x=some (.tuple vs)) (hv:vs[i]? = some v):Yv P W M T n G D F E (.extract x i) v:=fun _ _ _ _ _ _ _ I=>Vq I hx hv
theorem Yv.nl {p:Addr} (hx:ev G x=some (.pointer (some p))):Yv P W M T n G D F E (.nilCheck x) (.pointer (some p)):=fun _ _ _ _ _ _ _ I=>T4 I hx
theorem Yv.fl {f b o:Nat} [c:oX P s f k] (hx:ev G x=some (.pointer (some ⟨b,o,none⟩))):Yv P W M T n G D F E (.fieldAddr s x f) (.pointer (some ⟨b,o+k,none⟩)):=fun _ _ _ _ _ _ _ I=>TY I hx c.h
theorem Yv.pt {b:Bool} (hz:ev G z=some (.bool b)) (hb:b=true) (hx:ev G x=some v):Yv P W M T n G D F E (.pick z x y) v:=fun _ _ _ _ _ _ _ I=>Pk I hz hb hx
theorem Yv.pf {b:Bool} (hz:ev G z=some (.bool b)) (hb:b=false) (hy:ev G y=some v):Yv P W M T n G D F E (.pick z x y) v:=fun _ _ _ _ _ _ _ I=>Pj I hz hb hy
theorem Yv.cv {k k' ks:IntKind} [hs:Pz P s (.int ks)] [ht:Pz P t (.int k')] (hx:ev G x=some (.int k p)):Yv P W M T n G D F E (.convert s t x) (.int k' (k'.wrap p)):=fun _ _ _ _ _ _ _ I=>Rk I hx hs.h ht.h
theorem Yv.ls {p:ByteArray} [ht:Pz P t .string] (hx:ev G x=some (.string p)):Yv P W M T n G D F E (.call { callee:=.builtin .len,args:=#[x],argTypes:=#[t] }) (.int .i64 p.size):=fun _ _ _ _ _ _ _ I=>Ro I ht.h hx
theorem Yv.ll {e:TypeId} {α:Type} {R:aY α} {xs:List α} [ht:Gy P t e] (hx:ev G x=some v) (hF:∃ i:Nat,F[i]? = some (aT R v xs)):Yv P W M T n G D F E (.call { callee:=.builtin .len,args:=#[x],argTypes:=#[t] }) (.int .i64 xs.length):=fun _ _ _ _ _ _ _ I=>T0 I ht.h hx hF.choose hF.choose_spec
theorem Yv.lo {e e':TypeId} {cl:bG} {α:Type} {R:aY α} {xs:List α} [ht:Gy P t e] (hx:ev G x=some v) (hD:∃ j:Nat,D[j]? = some (.own v e' R.size cl)) (hF:∃ i:Nat,F[i]? = some (au R cl xs)):Yv P W M T n G D F E (.call { callee:=.builtin .len,args:=#[x],argTypes:=#[t] }) (.int .i64 xs.length):=fun _ _ _ _ _ _ _ I=>Rl I ht.h hx hD.choose hD.choose_spec hF.choose hF.choose_spec
theorem Yv.la {Z b o:Nat} {cs us:bG} {bt:TypeId} [c:ua P t true Z] (hx:ev G x=some (.pointer (some ⟨b,o,none⟩))) (hD:∃ i:Nat,D[i]? = some (.box b cs bt)) (hE:¬ E b) (hu:Tk Z o cs us):Yv P W M T n G D F E (.load t x) (.agg us.toArray):=fun _ _ _ _ _ _ _ I=>ou I hx c.h hD.choose hD.choose_spec hE hu.1 hu.2 (fun h=>by cases h)
theorem Yv.l1 {b o:Nat} {cs:bG} {bt:TypeId} [c:ua P t false 1] (hx:ev G x=some (.pointer (some ⟨b,o,none⟩))) (hD:∃ i:Nat,D[i]? = some (.box b cs bt)) (hE:¬ E b) (hu:(cs.drop o).take 1=[v]):Yv P W M T n G D F E (.load t x) v:=fun _ _ _ _ _ _ _ I=>ou (us:=[v]) I hx c.h hD.choose hD.choose_spec hE hu rfl (fun _=>rfl)
theorem Yv.ca {Z b o p:Nat} {cs us:bG} [c:ua P t true Z] (hx:ev G x=some (.pointer (some ⟨b,p,none⟩))) (hF:∃ i:Nat,F[i]? = some (bS b o cs)) (hp:o+k=p) (hE:∀ a w,St W M T n G D F a w->∀ j,E j->dT T D j∨w.heap.size<=j) (hu:Tk Z k cs us):Yv P W M T n G D F E (.load t x) (.agg us.toArray):=fun a w _ _ _ _ _ I=>by
 subst hp;exact x5 I c.h hF.choose hF.choose_spec hx (hE a w I) hu.1 hu.2 (fun h=>by cases h)
theorem Yv.c1 {b o p:Nat} {cs:bG} [c:ua P t false 1] (hx:ev G x=some (.pointer (some ⟨b,p,none⟩))) (hF:∃ i:Nat,F[i]? = some (bS b o cs)) (hp:o+k=p) (hE:∀ a w,St W M T n G D F a w->∀ j,E j->dT T D j∨w.heap.size<=j) (hu:(cs.drop k).take 1=[v]):Yv P W M T n G D F E (.load t x) v:=fun a w _ _ _ _ _ I=>by
 subst hp;exact x5 (us:=[v]) I c.h hF.choose hF.choose_spec hx (hE a w I) hu rfl (fun _=>rfl)
theorem VD {ops:Array Oper} {mods:List (Nat×Tn)} {ls:Array Bool} {i:Nat} (h:rem ops mods ls i=[]:=by first | exact rfl | kernel_rfl):¬ Eo (rem ops mods ls i) k:=by rw [h]; exact cc
theorem VE {ops:Array Oper} {mods:List (Nat×Tn)} {ls:Array Bool} {i:Nat} (h:rem ops mods ls i=[]:=by first | exact rfl | kernel_rfl):∀ a w,St W M T n G D F a w->∀ j,Eo (rem ops mods ls i) j->dT T D j∨w.heap.size<=j:=by rw [h]; exact fun _ _ _=>CE
theorem Yv.e {d:Option Nat} {ty:TypeId} {op:Op} {a:Act} {w:World} (h:Yv P W M T n G D F E op v) (I:St W M T n G D F a w):Ye P ⟨d,op,ty,pos,af,g⟩ a E w v:=h a w d ty pos af g I
theorem yA {op:Op} (h:Yv P W M T n G D F E op v:=by
 first
  | ((with_reducible apply Yv.mv); exact rfl)
  | ((with_reducible apply Yv.bi); exact rfl; exact rfl; exact rfl)
  | ((with_reducible apply Yv.as); exact rfl)
  | ((with_reducible apply Yv.fl); exact rfl)
  | ((with_reducible apply Yv.l1); exact rfl; exact fR; (first | exact id | exact VD); exact rfl)
  | ((with_reducible apply Yv.la); exact rfl; exact fR; (first | exact id | exact VD); exact VL)
  | ((with_reducible apply Yv.c1); exact rfl; exact fD; (first | exact mz _ | exact rfl | exact (my _ _ _).symm); (first | exact (fun _ _ _ _ h=>h.elim) | exact VE); exact rfl)
  | ((with_reducible apply Yv.ca); exact rfl; exact fD; (first | exact mz _ | exact rfl | exact (my _ _ _).symm); (first | exact (fun _ _ _ _ h=>h.elim) | exact VE); exact VL)
  | ((with_reducible apply Yv.pt); exact rfl; exact kn; exact rfl)
  | ((with_reducible apply Yv.pf); exact rfl; exact kn; exact rfl)
  | ((with_reducible apply Yv.ex); exact rfl; exact rfl)
  | ((with_reducible apply Yv.no); exact rfl)
  | ((with_reducible apply Yv.nl); exact rfl)
  | ((with_reducible apply Yv.bs); exact rfl; exact rfl; exact rfl)
  | ((with_reducible apply Yv.ll); exact rfl; exact fD)
  | ((with_reducible apply Yv.lo); exact rfl; exact fR; exact fD)
  | ((with_reducible apply Yv.ls); exact rfl)
  | ((with_reducible apply Yv.cv); exact rfl)
  | ((with_reducible apply Yv.ng); exact rfl)):Yv P W M T n G D F E op v:=h
end
def Rn (W:World) (M T:Nat->Prop) (n:Nat) (F:List co) (b:Bool) (G:List (Nat×Value)) (D:List cZ) (X:Act->World->Prop) (G':List (Nat×Value)) (D':List cZ) (X':Act->World->Prop):Prop :=
 ∀ w,(∀ a w',(b=true->w'=w)->St W M T n G' D' F a w'->X' a w')->∀ a,St W M T n G D F a w->X a w
section
variable {b:Bool} {G G':List (Nat×Value)} {D D':List cZ} {X X' K:Act->World->Prop} {Q:Exit->Act->World->Prop} {ops:Array Oper} {l:List Oper} {op:Op} {v:Value} {d j t:Nat} {ty tt:TypeId} {pos:String} {af:Array Edge} {want c:Bool} {x y z:Code} {id:Nat} {u:Operand}
theorem Rn.fin:Rn W M T n F b G D X G D X:=fun w k a I=>k a w (fun _=>rfl) I
theorem Rn.yv (h:Yv P W M T n G D F No op v) (hn:Nat.blt d n=true) (k:Rn W M T n F b ((d,v)::G) D (wpList P ops Q l) G' D' X'):Rn W M T n F b G D (wpList P ops Q (⟨some d,op,ty,pos,af,none⟩::l)) G' D' X' :=
 fun w K a I=>wy I (h a w _ _ _ _ _ I) rfl rfl hn fun a I=>k w K a I
def RE (u:Value) (want:Bool) (A B:Prop):Prop:=(∃ c,u = .bool c/\c=want/\A)∨(((∃ c,u = .bool c/\c = !want)∨u=undef)/\B)
theorem U4 (h:c=want) (k:A):RE (.bool c) want A B:=.inl ⟨c,rfl,h,k⟩
theorem U3 (h:c = !want) (k:B):RE (.bool c) want A B:=.inr ⟨.inl ⟨c,rfl,h⟩,k⟩
theorem U5 (k:B):RE undef want A B:=.inr ⟨.inr rfl,k⟩
theorem Jx {o:Oper} {g:Option (Nat×Bool)} {a:Act} {w:World} {rest:List Oper} (h:wpList P ops Q ({ o with guard:=none } :: rest) a w) (hw:Region.wanted { o with guard:=g } (yielded ops a.tmps)=true):wpList P ops Q ({ o with guard:=g } :: rest) a w:=by
 unfold wpList at h ⊢;rw [if_pos hw];rw [if_pos (by simp [Region.wanted])] at h;exact h
theorem Rn.gd {uv:Value} (hj:(ops[j]?).bind (·.dst)=some t) (ht:lk G t=some uv) (hn:Nat.blt d n=true)
  (k:RE uv want (Rn W M T n F b G D (wpList P ops Q (⟨some d,op,ty,pos,af,none⟩::l)) G' D' X') (Rn W M T n F b ((d,undef)::G) D (wpList P ops Q l) G' D' X')):Rn W M T n F b G D (wpList P ops Q (⟨some d,op,ty,pos,af,some (j,want)⟩::l)) G' D' X':=by
 intro w K a I;rcases k with⟨c,h1,h2,k⟩|⟨h1 | h1,k⟩
 ·subst h1;exact Jx (o:=⟨some d,op,ty,pos,af,none⟩) (k w K a I) (by rw [tj I rfl hj ht,h2]; simp)
 ·obtain⟨c,h1,h2⟩:=h1;subst h1;exact wn I rfl hj ht h2 rfl hn fun a I=>k w K a I
 ·subst h1;exact WB I rfl hj ht rfl hn fun a I=>k w K a I
theorem Rn.st {ag:Bool} {Z bb o:Nat} {cs us:bG} {bt:TypeId} {xx yy:Operand} [ct:ua P tt ag Z] {i:Nat} (hx:ev G xx=some (.pointer (some ⟨bb,o,none⟩))) (hi:D[i]? = some (.box bb cs bt)) (hy:ev G yy=some v)
  (h1:∀ a w,St W M T n G D F a w->Cl Z v us) (h2:∀ a w,St W M T n G D F a w->∀ u∈us,u.oneCell'=true) (hl:Nat.ble (o+Z) cs.length=true) (k:Rn W M T n F false G (D.set i (.box bb (sF cs o us) bt)) (wpList P ops Q l) G' D' X'):Rn W M T n F false G D (wpList P ops Q (⟨none,.store tt xx yy,ty,pos,af,none⟩::l)) G' D' X' :=
 fun w K a I=>wl rfl (FQ I hx hy (h1 a w I).1 ct.h i hi (h1 a w I).2 hl (h2 a w I) fun w O I=>k w (fun a w' _ I=>K a w' (fun h=>by cases h) I) _ I)
theorem ax {a:Act} {w:World} (h:x.wp P (SQ P z Q) a w):(Code.seq x z).wp P Q a w:=wp_seq h
theorem Rn.rq (hg:(l.all fun o=>o.guard.isNone)=true) (k:Rn W M T n F b G D (wpList P l.toArray (SQ P z Q) l) G' D' X'):Rn W M T n F b G D (Code.wp P (Code.seq (Code.region id l.toArray false) z) Q) G' D' X':=fun w K a I=>wp_seq (wp_region_lit (k w K a I))
theorem ip {l:List Oper} {a:Act} {w:World} (h:wpList P l.toArray (SQ P z Q) l a w):(Code.seq (Code.region id l.toArray false) z).wp P Q a w:=wp_seq (wp_region_lit h)
theorem Rn.rl (k:Rn W M T n F b G D (wpList P l.toArray Q l) G' D' X'):Rn W M T n F b G D (Code.wp P (Code.region id l.toArray false) Q) G' D' X':=fun w K a I=>wp_region_lit (k w K a I)
theorem Rn.rz (k:Rn W M T n F b G D (Q .normal) G' D' X'):Rn W M T n F b G D (wpList P ops Q []) G' D' X':=fun w K a I=>wpList_nil (k w K a I)
theorem Rn.sq (k:Rn W M T n F b G D (z.wp P Q) G' D' X'):Rn W M T n F b G D (SQ P z Q .normal) G' D' X':=k
theorem Rn.th (k:Rn W M T n F b G D (K) G' D' X'):Rn W M T n F b G D (Exit.then K Q .normal) G' D' X':=k
theorem Rn.ib (k:Rn W M T n F b G D (Q .normal) G' D' X'):Rn W M T n F b G D (Exit.inBlock id Q .normal) G' D' X':=k
theorem Rn.sk (k:Rn W M T n F b G D (Q .normal) G' D' X'):Rn W M T n F b G D (Code.wp P .skip Q) G' D' X':=fun w K a I=>wp_skip (k w K a I)
theorem Rn.bl (k:Rn W M T n F b G D (x.wp P (Exit.inBlock id Q)) G' D' X'):Rn W M T n F b G D (Code.wp P (.block id x) Q) G' D' X':=fun w K a I=>wp_block (k w K a I)
theorem Rn.ct (hu:ev G u=some (.bool c)) (hc:c=true) (k:Rn W M T n F b G D (x.wp P Q) G' D' X'):Rn W M T n F b G D (Code.wp P (.cond u x y) Q) G' D' X':=fun w K a I=>VR I hu hc (k w K a I)
theorem Rn.cf (hu:ev G u=some (.bool c)) (hc:c=false) (k:Rn W M T n F b G D (y.wp P Q) G' D' X'):Rn W M T n F b G D (Code.wp P (.cond u x y) Q) G' D' X':=fun w K a I=>VQ I hu hc (k w K a I)
theorem Rn.xt (k:Rn W M T n F b G D (Q (.exit j)) G' D' X'):Rn W M T n F b G D (Code.wp P (.exit j) Q) G' D' X':=fun w K a I=>wp_exit (k w K a I)
theorem Rn.rt (k:Rn W M T n F b G D (Q .ret) G' D' X'):Rn W M T n F b G D (Code.wp P .ret Q) G' D' X':=fun w K a I=>wp_ret (k w K a I)
theorem Rn.sqr (k:Rn W M T n F b G D (Q .ret) G' D' X'):Rn W M T n F b G D (SQ P z Q .ret) G' D' X':=k
theorem Rn.sqe (k:Rn W M T n F b G D (Q (.exit j)) G' D' X'):Rn W M T n F b G D (SQ P z Q (.exit j)) G' D' X':=k
theorem Rn.thr (k:Rn W M T n F b G D (Q .ret) G' D' X'):Rn W M T n F b G D (Exit.then K Q .ret) G' D' X':=k
theorem Rn.the (k:Rn W M T n F b G D (Q (.exit j)) G' D' X'):Rn W M T n F b G D (Exit.then K Q (.exit j)) G' D' X':=k
theorem Rn.ibr (k:Rn W M T n F b G D (Q .ret) G' D' X'):Rn W M T n F b G D (Exit.inBlock id Q .ret) G' D' X':=k
theorem Rn.ibt (h:Nat.beq j id=true) (k:Rn W M T n F b G D (Q .normal) G' D' X'):Rn W M T n F b G D (Exit.inBlock id Q (.exit j)) G' D' X':=fun w K a I=>by
 have h2:=k w K a I;simp only [Exit.inBlock];rw [if_pos (xC h)]; exact h2
theorem Rn.ibf (h:Nat.beq j id=false) (k:Rn W M T n F b G D (Q (.exit j)) G' D' X'):Rn W M T n F b G D (Exit.inBlock id Q (.exit j)) G' D' X':=fun w K a I=>by
 have h2:=k w K a I;simp only [Exit.inBlock];rw [if_neg (fun e=>by rw [e] at h; simp at h)]; exact h2
theorem VP (h:Rn W M T n F b G D X G' D' X':=by
 repeat (first
 | ((with_reducible apply Rn.yv); exact yA; exact rfl)
 | ((with_reducible apply Rn.gd); exact rfl; exact rfl; exact rfl; (first | apply U5 | (apply U4; exact kn; (first | ((with_reducible apply Rn.yv); exact yA; exact rfl) | ((with_reducible apply Rn.st); exact rfl; exact fI; exact rfl; exact (fun a w I=>QF); exact (fun a w I=>Tr); exact rfl))) | (apply U3; exact kn)))
 | ((with_reducible apply Rn.st); exact rfl; exact fI; exact rfl; exact (fun a w I=>QF); exact (fun a w I=>Tr); exact rfl)
 | (with_reducible apply Rn.rz)
 | (with_reducible apply Rn.sq)
 | (with_reducible apply Rn.th)
 | (with_reducible apply Rn.ib)
 | (with_reducible apply Rn.sk)
 | ((with_reducible apply Rn.ct); exact rfl; exact kn)
 | ((with_reducible apply Rn.cf); exact rfl; exact kn))
 exact Rn.fin):Rn W M T n F b G D X G' D' X':=h
theorem RM (h:Rn W M T n F b G D X G' D' X':=by
 repeat (first
 | ((with_reducible apply Rn.yv); exact yA; exact rfl)
 | ((with_reducible apply Rn.gd); exact rfl; exact rfl; exact rfl; (first | apply U5 | (apply U4; exact kn; (first | ((with_reducible apply Rn.yv); exact yA; exact rfl) | ((with_reducible apply Rn.st); exact rfl; exact fI; exact rfl; exact (fun a w I=>QF); exact (fun a w I=>Tr); exact rfl))) | (apply U3; exact kn)))
 | ((with_reducible apply Rn.st); exact rfl; exact fI; exact rfl; exact (fun a w I=>QF); exact (fun a w I=>Tr); exact rfl)
 | (with_reducible apply Rn.rz)
 | ((with_reducible apply Rn.rq); exact rfl)
 | (with_reducible apply Rn.sq)
 | (with_reducible apply Rn.th)
 | (with_reducible apply Rn.ib)
 | (with_reducible apply Rn.sk)
 | (with_reducible apply Rn.bl)
 | ((with_reducible apply Rn.ct); exact rfl; exact kn)
 | ((with_reducible apply Rn.cf); exact rfl; exact kn)
 | (with_reducible apply Rn.rl)
 | (with_reducible apply Rn.rt)
 | (with_reducible apply Rn.xt)
 | (with_reducible apply Rn.sqr)
 | (with_reducible apply Rn.thr)
 | (with_reducible apply Rn.ibr)
 | (with_reducible apply Rn.sqe)
 | (with_reducible apply Rn.the)
 | ((with_reducible apply Rn.ibt); exact rfl)
 | ((with_reducible apply Rn.ibf); exact rfl))
 exact Rn.fin):Rn W M T n F b G D X G' D' X':=h
def VG (ops:Array Oper) (listed:Array Bool) (i:Nat):Bool:=Region.free .any ops listed i&&(Region.ready .any ops listed).contains i
def Re (P:Program) (ops:Array Oper) (Q:Exit->Act->World->Prop) (mods:List (Nat×Tn)) (W:World) (M T:Nat->Prop) (n:Nat) (D:List cZ) (F:List co) (is:List Nat) (fuel:Nat) (ls:Array Bool) (G:List (Nat×Value)) (fuel':Nat) (ls':Array Bool) (G':List (Nat×Value)):Prop :=
 ∀ a w,Region.noSelect ops=true->Qp Q->St W M T n G D F a w->(∀ a,St W M T n G' D F a w->ut P ops Q mods fuel' ls' a w)->ut P ops Q mods fuel ls a w
section
variable {mods:List (Nat×Tn)} {fuel fuel' i:Nat} {ls ls':Array Bool} {is:List Nat}
theorem Re.en:Re P ops Q mods W M T n D F [] fuel ls G fuel ls G:=fun a w _ _ I k=>k a I
theorem Re.va {f:Nat} (hfu:fuel=f+1) (hi:ops[i]? = some ⟨some d,op,ty,pos,af,none⟩) (h:Yv P W M T n G D F (Eo (rem ops mods ls i)) op v) (hn:Nat.blt d n=true) (hr:VG ops ls i=true) (k:Re P ops Q mods W M T n D F is f (ls.setIfInBounds i true) ((d,v)::G) fuel' ls' G'):Re P ops Q mods W M T n D F (i::is) fuel ls G fuel' ls' G' :=
 fun a w hs hQ I K=>hfu▸dy i hi hs (Bool.and_eq_true_iff.1 hr).1 (Bool.and_eq_true_iff.1 hr).2 rfl hQ I (h a w _ _ _ _ _ I) rfl rfl hn fun a I=>k a w hs hQ I K
theorem Re.gu {uv:Value} {f:Nat} (hfu:fuel=f+1) (hi:ops[i]? = some ⟨some d,op,ty,pos,af,some (j,want)⟩) (hj:(ops[j]?).bind (·.dst)=some t) (ht:lk G t=some uv) (hn:Nat.blt d n=true) (hr:VG ops ls i=true)
  (k:RE uv want (∃ v,Yv P W M T n G D F (Eo (rem ops mods ls i)) op v/\Re P ops Q mods W M T n D F is f (ls.setIfInBounds i true) ((d,v)::G) fuel' ls' G') (Re P ops Q mods W M T n D F is f (ls.setIfInBounds i true) ((d,undef)::G) fuel' ls' G')):Re P ops Q mods W M T n D F (i::is) fuel ls G fuel' ls' G':=by
 intro a w hs hQ I K;subst hfu;have h1:=Bool.and_eq_true_iff.1 hr;rcases k with⟨c,e1,e2,v,h,k⟩|⟨e1 | e1,k⟩
 ·subst e1;exact VC i hi hs h1.1 h1.2 rfl hQ I (h a w _ _ _ _ _ I) rfl hj ht e2 rfl hn fun a I=>k a w hs hQ I K
 ·obtain⟨c,e1,e2⟩:=e1;subst e1;exact VW i hi hs h1.1 h1.2 hQ I rfl hj ht e2 rfl hn fun a I=>k a w hs hQ I K
 ·subst e1;exact U0 i hi hs h1.1 h1.2 hQ I rfl hj ht rfl hn fun a I=>k a w hs hQ I K
theorem gE (is:List Nat) {a:Act} {w:World} (I:St W M T n G D F a w) (k:∀ a,St W M T n G' D F a w->ut P ops Q mods fuel' ls' a w) (h:Re P ops Q mods W M T n D F is fuel ls G fuel' ls' G':=by
 repeat (first
 | ((with_reducible apply Re.va); exact rfl; exact rfl; exact yA; exact rfl; kernel_rfl)
 | ((with_reducible apply Re.gu); exact rfl; exact rfl; exact rfl; exact rfl; exact rfl; kernel_rfl; (first | apply U5 | (apply U4; exact kn; refine⟨_,yA,?_⟩) | (apply U3; exact kn))))
 exact Re.en) (hs:Region.noSelect ops=true:=by kernel_rfl) (hQ:Qp Q:=by assumption):ut P ops Q mods fuel ls a w:=h a w hs hQ I k
end
def DT (F:List co):List Nat->List co->Prop
 | _,[]=>True
 | [],_::_=>False
 | j::js,f::F'=>F[j]? = some f/\DT F js F'
theorem DT.to {F:List co}:∀ {js:List Nat} {F':List co},DT F js F'->GJ F F'
 | _,[],_=>trivial
 | [],_::_,h=>h.elim
 | j::js,f::F',h=>⟨⟨j,h.1⟩,h.2.to⟩
theorem Wr {F:List co}:DT F [] []:=trivial
theorem Wq {F F':List co} {j:Nat} {js:List Nat} {f:co} (h:F[j]? = some f) (k:DT F js F'):DT F (j::js) (f::F'):=⟨h,k⟩
theorem VK {F F':List co} {js:List Nat} (h:DT F js F':=by repeat (first | exact Wr | (apply Wq; exact rfl))):DT F js F':=h
theorem VJ:pZ D [] []:=trivial
theorem VH {i:Nat} {is:List Nat} (h:D[i]? = some r) (k:pZ D is D'):pZ D (i::is) (r::D'):=⟨h,k⟩
theorem TJ {is:List Nat} (h:pZ D is D':=by repeat (first | exact VJ | (apply VH; exact rfl))):pZ D is D':=h
theorem pZ.app:∀ {is js:List Nat} {D0 D1:List cZ},pZ D is D0->pZ D js D1->pZ D (is++js) (D0++D1)
 | [],_,[],_,_,k=>k
 | [],_,_::_,_,h,_=>h.elim
 | _::_,_,[],_,h,_=>h.elim
 | _::_,_,_::_,_,h,k=>⟨h.1,pZ.app h.2 k⟩
section
variable {F':List co} {a:Act} {w:World} {D0 D1:List cZ} {α β:Type} {R:aY α} {R2:aY β} {xs:List α} {ys:List β} {vv v2:Value} {cl dm:bG} {e e2:TypeId}
theorem St.mt (h:St W M T n G D F a w) (is js:List Nat) (hG:Py G G':=by repeat (first | exact trivial | refine⟨rfl,?_⟩)) (hD:pZ D is D':=by exact TJ) (hF:DT F js F':=by exact VK) (hn:is.Nodup:=by decide):St W M T n G' D' F' a w:=h.meet is hn hG hD hF.to
theorem St.sl (h:St W M T n G D F a w) (is js:List Nat) (hD:pZ D is D':=by exact TJ) (hF:DT F js F':=by exact VK) (hn:is.Nodup:=by decide):St W M T n [] D' F' a w:=h.meet is hn trivial hD hF.to
theorem St.rd (h:St W M T n G D F a w) (is:List Nat) (hD:pZ D is D':=by exact TJ) (hn:is.Nodup:=by decide):St W M T n G D' F a w:=h.reD is hn hD
theorem St.re (h:St W M T n G D F a w) (is js:List Nat) (h0:pZ D is D0:=by exact TJ) (h1:pZ D js D1:=by exact TJ) (hn:(is++js).Nodup:=by decide):St W M T n G (D0++D1) F a w:=h.reD (is++js) hn (h0.app h1)
theorem St.fS (h:St W M T n G D F a w) (k:aQ R (dT T D) w vv xs):St W M T n G D (aT R vv xs::F) a w:=h.fact (aT R vv xs) k
theorem St.fR (h:St W M T n G D F a w) (k:bf R (dT T D) w cl xs):St W M T n G D (au R cl xs::F) a w:=h.fact (au R cl xs) k
theorem St.fM {κ ν:Type} {RK:aY κ} {ak:Bool} {RV:aY ν} {av:Bool} {es:Array MapEntry} {ms:List (κ×ν)} (h:St W M T n G D F a w) (k:bW RK ak RV av (dT T D) w es ms):St W M T n G D (ir RK ak RV av es ms::F) a w:=h.fact (ir RK ak RV av es ms) k
theorem fA (U:∀ rs:List cZ,(∀ r∈rs,r.ok w'/\∀ k,r.dom k->w.heap.size<=k)->(rs.Pairwise fun r s=>∀ k,r.dom k->¬ s.dom k)->St W M T n G (rs++D) F a w'):St W M T n G D F a w':=U [] (fun r hr=>by cases hr) sA
theorem sN (U:∀ rs:List cZ,(∀ r∈rs,r.ok w'/\∀ k,r.dom k->w.heap.size<=k)->(rs.Pairwise fun r s=>∀ k,r.dom k->¬ s.dom k)->St W M T n G (rs++D) F a w') (h:jy R (dT T D) w w' [.own vv e R.size cl] e vv cl xs) (h0:0<R.size:=by decide):St W M T n G ([.own vv e R.size cl]++D) (au R cl xs::F) a w' :=
 (U [.own vv e R.size cl] (rX ⟨h.1,h0⟩ h.2.1) (Gz _)).fact (au R cl xs) (h.2.2.keep (aw _ _) (mV _))
theorem IF (U:∀ rs:List cZ,(∀ r∈rs,r.ok w'/\∀ k,r.dom k->w.heap.size<=k)->(rs.Pairwise fun r s=>∀ k,r.dom k->¬ s.dom k)->St W M T n G (rs++D) F a w') (h:jy R (dT T D) w w' [.own vv e R.size cl,.own v2 e2 R2.size dm] e vv cl xs) (k:jy R2 (dT T D) w w' [.own vv e R.size cl,.own v2 e2 R2.size dm] e2 v2 dm ys) (hp:∀ k,vv.ownBlock=some k->v2.ownBlock≠some k) (h0:0<R.size:=by decide) (k0:0<R2.size:=by decide):St W M T n G ([.own vv e R.size cl,.own v2 e2 R2.size dm]++D) (au R2 dm ys::au R cl xs::F) a w' :=
 ((U [.own vv e R.size cl,.own v2 e2 R2.size dm] (RP ⟨h.1,h0⟩ h.2.1 ⟨k.1,k0⟩ k.2.1) (Wo hp)).fact (au R cl xs) (h.2.2.keep (aw _ _) (mV _))).fact (au R2 dm ys) (k.2.2.keep (aw _ _) (mV _))
theorem Wp {is:List Nat} (h:pZ D is D':=by repeat (first | exact VJ | (apply VH; exact fI))):pZ D is D':=h
theorem St.mtS {is:List Nat} (h:St W M T n G D F a w) (hG:Py G G':=by repeat (first | exact trivial | refine⟨rfl,?_⟩)) (hD:pZ D is D':=by exact Wp) (hF:GJ F F':=by repeat (first | exact trivial | refine⟨fD,?_⟩)) (hn:is.Nodup:=by decide):St W M T n G' D' F' a w:=h.meet is hn hG hD hF
end
theorem lo {R Y:Type} {u r:R} {f:Fl S R} {k:R->Option Y} {y:Y} (B:some (Fl.out u)=some f) (hf:∀ u,f = .out u->u=r) (O:k r=some y):k u=some y:=by
 rw [hf u (bJ B).symm]; exact O
theorem Tm {R Y S2:Type} {s:S2} {r:Fl S2 R} {f:Fl S (Fl S2 R)} {p:S2->Option Y} {q:R->Option Y} {y:Y} (B:some (Fl.out (Fl.go s))=some f) (hf:∀ u,f = .out u->u=r) (O:Fl.el r p q=some y):p s=some y:=by
 have h:=hf _ (bJ B).symm;subst h; exact O
theorem P4 {R Y S2:Type} {s:R} {r:Fl S2 R} {f:Fl S (Fl S2 R)} {p:S2->Option Y} {q:R->Option Y} {y:Y} (B:some (Fl.out (Fl.out s))=some f) (hf:∀ u,f = .out u->u=r) (O:Fl.el r p q=some y):q s=some y:=by
 have h:=hf _ (bJ B).symm;subst h; exact O
theorem cd {α:Type} {b:Bool} {x y r:α} (h:cond b x y=r):(b=true/\x=r)∨(b=false/\y=r):=by cases b <;> simp_all
theorem go {a:Act} {w:World} (I:St W M T n G D F a w) (k:∀ a w,St W M T n G' D' F a w->X' a w) (h:Rn W M T n F false G D X G' D' X':=by exact RM):X a w:=h w (fun a w' _ I=>k a w' I) a I
theorem JX {a:Act} {w:World} (I:St W M T n G D F a w) (k:∀ a,St W M T n G' D' F a w->X' a w) (h:Rn W M T n F true G D X G' D' X':=by exact VP):X a w:=h w (fun a w' e I=>by cases e rfl; exact k a I) a I
theorem an {a:Act} {w:World} (I:St W M T n G D F a w) (k:∀ a,St W M T n G' D' F a w->X' a w) (h:Rn W M T n F true G D X G' D' X':=by exact RM):X a w:=h w (fun a w' e I=>by cases e rfl; exact k a I) a I
section
variable {a:Act} {w:World} {E:Nat->Prop} {o:Oper} {fuel:Nat} {ls:Array Bool} {mods:List (Nat×Tn)} {cs us:bG} {ag:Bool} {Z bb off:Nat} {bt e:TypeId} {xx yy X Y:Operand} {g:Option (Nat×Bool)} {args:Array Operand} {tys:Array TypeId} {f:Nat} {vs:bG} {R:Value->World->Prop} {fn:Func}
theorem en {c:Code} {L:World} {av:bG} (hf:P.funcs[f]? = some fn) (hn:fn.ntmps=n) (hT:∀ k,T k->k<L.heap.size) (h:∀ a,St L M T n (oz 0 av) [] [] a L->c.wp P (bodyPost P fn (RL M L R)) a L) (hb:fn.body=some c:=by rfl) (hl:Nat.ble av.length n=true:=by rfl):bm P M f av L R:=enter hf hb T n hn hT hl h
theorem ka (I:St W M T n G D F a w) (hz:gR P tt=some cs) (k:∀ b,w.heap.size<=b->∀ a w',Kt No w w'->St W M T n ((d,.pointer (some ⟨b,0,none⟩))::G) (.box b cs tt::D) F a w'->wpList P ops Q l a w') (hn:Nat.blt d n=true:=by rfl):wpList P ops Q (⟨some d,.alloc tt,ty,pos,af,none⟩::l) a w:=wl rfl (gH I hz hn k)
theorem kb (I:St W M T n G D F a w) (k:∀ b,w.heap.size<=b->∀ a w',Kt No w w'->St W M T n ((d,.pointer (some ⟨b,0,none⟩))::G) (.box b cs tt::D) F a w'->wpList P ops Q l a w') (hx:ev G X=some v:=by rfl) (hv:Cl Z v cs:=by exact QF) (hn:Nat.blt d n=true:=by rfl):wpList P ops Q (⟨some d,.box tt X,ty,pos,af,none⟩::l) a w:=wl rfl (HC I hx hv.1 hn k)
theorem kc (I:St W M T n G D F a w) (hf:aR P f=true) (hc:bm P No f vs w R)
  (k:∀ v w',R v w'->∀ a,Kt No w w'->(∀ rs:List cZ,(∀ r∈rs,r.ok w'/\∀ k,r.dom k->w.heap.size<=k)->(rs.Pairwise fun r s=>∀ k,r.dom k->¬ s.dom k)->St W M T n ((d,v)::G) (rs++D) F a w')->wpList P ops Q l a w') (hargs:evs G args.toList=some vs:=by rfl) (hn:Nat.blt d n=true:=by rfl):wpList P ops Q (⟨some d,.call { callee:=.value (.func f),args:=args,argTypes:=tys },ty,pos,af,none⟩::l) a w:=wl rfl (bT I hf hargs hn hc k)
theorem kE (I:St W M T n G D F a w) (hf:aR P f=true) (hc:bm P No f vs w (fun v _=>v=v0)) (k:∀ w' a,St W M T n ((d,v0)::G) D F a w'->wpList P ops Q l a w') (hargs:evs G args.toList=some vs:=by rfl) (hn:Nat.blt d n=true:=by rfl):wpList P ops Q (⟨some d,.call { callee:=.value (.func f),args:=args,argTypes:=tys },ty,pos,af,none⟩::l) a w :=
 kc I hf hc (fun v w' C a _ U=>by subst C; exact k w' a (fA U)) hargs hn
theorem kF (I:St W M T n G D F a w) (hf:aR P f=true) (hc:bm P No f vs w (fun v _=>v=v0)) (k:∀ w' a,St W M T n G' D' F a w'->X' a w') (hargs:evs G args.toList=some vs:=by rfl) (hn:Nat.blt d n=true:=by rfl) (h:Rn W M T n F true ((d,v0)::G) D (fun a w=>wpList P ops Q l a w) G' D' X':=by exact RM):wpList P ops Q (⟨some d,.call { callee:=.value (.func f),args:=args,argTypes:=tys },ty,pos,af,none⟩::l) a w :=
 kE I hf hc (fun w' a I=>an I (k w') h) hargs hn
theorem kA {X:Act->World->Prop} (I:St W M T n G D F a w) (hz:gR P tt=some cs) (k:∀ b,w.heap.size<=b->∀ a w',Kt No w w'->St W M T n ((d,.pointer (some ⟨b,0,none⟩))::G') (.box b cs tt::D') F a w'->wpList P ops Q l a w') (h:Rn W M T n F true G D X G' D' (fun a w=>wpList P ops Q (⟨some d,.alloc tt,ty,pos,af,none⟩::l) a w):=by exact RM) (hn:Nat.blt d n=true:=by rfl):X a w:=an I (fun a I=>ka I hz k hn) h
theorem kB {X:Act->World->Prop} {X0:Operand} (I:St W M T n G D F a w) (k:∀ b,w.heap.size<=b->∀ a w',Kt No w w'->St W M T n ((d,.pointer (some ⟨b,0,none⟩))::G') (.box b cs tt::D') F a w'->wpList P ops Q l a w') (h:Rn W M T n F true G D X G' D' (fun a w=>wpList P ops Q (⟨some d,.box tt X0,ty,pos,af,none⟩::l) a w):=by exact RM) (hx:ev G' X0=some v:=by rfl) (hv:Cl Z v cs:=by exact QF) (hn:Nat.blt d n=true:=by rfl):X a w:=an I (fun a I=>kb I k hx hv hn) h
theorem e1 (i:Nat) (h:t8 P o a w (fun a' w'=>Px mods i w w'/\ut P ops Q mods fuel (ls.setIfInBounds i true) a' w')) (hi:ops[i]? = some o:=by rfl) (hr:Region.ready .any ops ls=[i]:=by kernel_rfl) (hg:o.guard=none:=by rfl):ut P ops Q mods (fuel+1) ls a w:=Gi hi hr hg h
theorem ec (i:Nat) (I:St W M T n G D F a w) (hf:aR P f=true) (hc:bm P No f vs w R)
  (k:∀ v w',R v w'->∀ a,Kt No w w'->(∀ rs:List cZ,(∀ r∈rs,r.ok w'/\∀ k,r.dom k->w.heap.size<=k)->(rs.Pairwise fun r s=>∀ k,r.dom k->¬ s.dom k)->St W M T n ((d,v)::G) (rs++D) F a w')->ut P ops Q mods fuel (ls.setIfInBounds i true) a w') (hi:ops[i]? = some ⟨some d,.call { callee:=.value (.func f),args:=args,argTypes:=tys },ty,pos,af,none⟩:=by rfl) (hr:Region.ready .any ops ls=[i]:=by kernel_rfl) (hargs:evs G args.toList=some vs:=by rfl) (hn:Nat.blt d n=true:=by rfl):ut P ops Q mods (fuel+1) ls a w :=
 Gi hi hr rfl (bT I hf hargs hn hc fun v w' C a O U=>⟨jx O,k v w' C a O U⟩)
theorem es (i:Nat) [ct:ua P tt ag Z] {q:Nat} (I:St W M T n G D F a w) (k:∀ w',St W M T n G (D.set q (.box bb (sF cs off us) bt)) F a w'->ut P ops Q mods fuel (ls.setIfInBounds i true) a w') (hi:ops[i]? = some ⟨none,.store tt xx yy,ty,pos,af,none⟩:=by rfl) (hr:Region.ready .any ops ls=[i]:=by kernel_rfl) (hx:ev G xx=some (.pointer (some ⟨bb,off,none⟩)):=by rfl) (hD:D[q]? = some (.box bb cs bt):=by exact fI) (hy:ev G yy=some v:=by rfl) (h1:Cl Z v us:=by exact QF) (h2:∀ u∈us,u.oneCell'=true:=by exact Tr) (hl:Nat.ble (off+Z) cs.length=true:=by rfl) (hm:yI mods i=[.blk (some bb)]:=by rfl):ut P ops Q mods (fuel+1) ls a w :=
 Gi hi hr rfl (FQ I hx hy h1.1 ct.h q hD h1.2 hl h2 fun w' O I=>⟨qU hm O od,k w' I⟩)
theorem eD (h:Q .normal a w) (hr:Region.ready .any ops ls=[]:=by kernel_rfl):ut P ops Q mods fuel ls a w:=NL hr h fuel
theorem dr {N:Nat} (mods:List (Nat×Tn)) (I:St W M T n G D F a w) (h:∀ w,Qp Q->St W M T n G D F a w->ut P l.toArray Q mods N (Array.replicate N false) a w) (hm:P.follows .mixedOrders=true:=by exact mixed) (hN:l.length=N:=by rfl) (hQ:Qp Q:=by exact (fun c a d v w h=>by cases d <;> exact h)):(Code.region id l.toArray true).wp P Q a w:=Tb mods I hm hN hQ h
theorem rC [ct:ua P tt ag Z] {c:Nat} (i:Nat) (I:St W M T n G D F a w) (hv:lk G c=some (.pointer (some ⟨bb,0,none⟩)):=by rfl) (hi:D[i]? = some (.box bb cs bt):=by rfl) (hl:cs.length=Z:=by rfl) (hz:ag=false->Z=1:=by first | exact (fun h=>by cases h) | exact fun _=>rfl):yd P a w [.cell c tt] [bF ag cs]:=eA I hv i hi ct.h hl hz aH
end
theorem fin {p:Prop} (h:p:=by
 first
 | ((repeat (apply Bz)); exact⟨I.mtS,B⟩)
 | (refine⟨_,(bJ B).symm,?_⟩; (repeat (apply Bz)); exact⟨rfl,I.mtS⟩)
 | (cases B; exact aG I rfl (aF I rfl aH) rfl)
 | (have B:=Tm B hf1 hMo1; first | ((repeat (apply Bz)); exact⟨I.mtS,B⟩) | (cases B; exact aG I rfl (aF I rfl aH) rfl))
 | (have B:=P4 B hf1 hMo1; first | ((repeat (apply Bz)); exact⟨I.mtS,B⟩) | (cases B; exact aG I rfl (aF I rfl aH) rfl))
 | (have B:=lo B hf1 hMo1; first | ((repeat (apply Bz)); exact⟨I.mtS,B⟩) | (cases B; exact aG I rfl (aF I rfl aH) rfl))
 | (have B:=Tm B hf2 hMo2; first | ((repeat (apply Bz)); exact⟨I.mtS,B⟩) | (cases B; exact aG I rfl (aF I rfl aH) rfl))
 | (have B:=P4 B hf2 hMo2; first | ((repeat (apply Bz)); exact⟨I.mtS,B⟩) | (cases B; exact aG I rfl (aF I rfl aH) rfl))
 | (have B:=lo B hf2 hMo2; first | ((repeat (apply Bz)); exact⟨I.mtS,B⟩) | (cases B; exact aG I rfl (aF I rfl aH) rfl))):p:=h
theorem fz {p:Prop} (h:p:=by
 refine go I fun a w I=>?_
 repeat' (first | exact fin | (rcases cd B with⟨_,B⟩|⟨_,B⟩ <;> refine go I fun a w I=>?_))):p:=h
end
end
section
variable {P:Program} {W:World} {M T:Nat->Prop} {n:Nat} {G G':List (Nat×Value)} {D D':List cZ} {F F':List co} {a:Act} {w:World} {ops:Array Oper} {Q:Exit->Act->World->Prop} {fuel:Nat} {listed:Array Bool} {mods:List (Nat×Tn)} {l:List Tn} {o:Oper} {v:Value} {d j t:Nat} {want c:Bool}
theorem dq (i:Nat) (I:St W M T n G D F a w) (h:Ye P o a (Eo l) w v) (k:∀ a,St W M T n ((d,v)::G) D F a w->ut P ops Q mods fuel (listed.setIfInBounds i true) a w) (hQ:Qp Q:=by assumption) (hi:ops[i]? = some o:=by rfl) (hg:o.guard=none:=by rfl) (hd:o.dst=some d:=by rfl) (hn:Nat.blt d n=true:=by rfl)
  (hb:rem ops mods listed i=l:=by first | rfl | kernel_rfl) (hs:Region.noSelect ops=true:=by kernel_rfl) (hf:Region.free .any ops listed i=true:=by kernel_rfl) (hr:(Region.ready .any ops listed).contains i=true:=by kernel_rfl):ut P ops Q mods (fuel+1) listed a w:=dy i hi hs hf hr hb hQ I h hg hd hn k
theorem dg (i:Nat) (I:St W M T n G D F a w) (hc:c=want) (h:Ye P o a (Eo l) w v) (k:∀ a,St W M T n ((d,v)::G) D F a w->ut P ops Q mods fuel (listed.setIfInBounds i true) a w) (hQ:Qp Q:=by assumption) (hi:ops[i]? = some o:=by rfl) (hg:o.guard=some (j,want):=by rfl) (hj:(ops[j]?).bind (·.dst)=some t:=by rfl) (ht:lk G t=some (.bool c):=by rfl) (hd:o.dst=some d:=by rfl) (hn:Nat.blt d n=true:=by rfl)
  (hb:rem ops mods listed i=l:=by first | rfl | kernel_rfl) (hs:Region.noSelect ops=true:=by kernel_rfl) (hf:Region.free .any ops listed i=true:=by kernel_rfl) (hr:(Region.ready .any ops listed).contains i=true:=by kernel_rfl):ut P ops Q mods (fuel+1) listed a w:=VC i hi hs hf hr hb hQ I h hg hj ht hc hd hn k
end
section
variable {P:Program} {W:World} {M T:Nat->Prop} {n:Nat} {G:List (Nat×Value)} {D D0 Dr:List cZ} {F:List co} {a:Act} {w:World} {f z0 z1 z2 z3 z4 z5 z6 z7 z8 z9 z10 z11 z12 z13 z14 z15 z16 z17 z18 z19 z20 z21 z22 z23 z24 z25 z26 z27 z28 z29 z30:co}
theorem St.g0 (h:St W M T n G D (f::F) a w):f.p (dT T D) w:=h.get 0 rfl
theorem St.g1 (h:St W M T n G D (z0::f::F) a w):f.p (dT T D) w:=h.get 1 rfl
theorem St.g2 (h:St W M T n G D (z0::z1::f::F) a w):f.p (dT T D) w:=h.get 2 rfl
theorem St.g3 (h:St W M T n G D (z0::z1::z2::f::F) a w):f.p (dT T D) w:=h.get 3 rfl
theorem St.g4 (h:St W M T n G D (z0::z1::z2::z3::f::F) a w):f.p (dT T D) w:=h.get 4 rfl
theorem St.g5 (h:St W M T n G D (z0::z1::z2::z3::z4::f::F) a w):f.p (dT T D) w:=h.get 5 rfl
theorem St.g6 (h:St W M T n G D (z0::z1::z2::z3::z4::z5::f::F) a w):f.p (dT T D) w:=h.get 6 rfl
theorem St.g7 (h:St W M T n G D (z0::z1::z2::z3::z4::z5::z6::f::F) a w):f.p (dT T D) w:=h.get 7 rfl
theorem St.g8 (h:St W M T n G D (z0::z1::z2::z3::z4::z5::z6::z7::f::F) a w):f.p (dT T D) w:=h.get 8 rfl
theorem St.g9 (h:St W M T n G D (z0::z1::z2::z3::z4::z5::z6::z7::z8::f::F) a w):f.p (dT T D) w:=h.get 9 rfl
theorem St.g10 (h:St W M T n G D (z0::z1::z2::z3::z4::z5::z6::z7::z8::z9::f::F) a w):f.p (dT T D) w:=h.get 10 rfl
theorem St.g11 (h:St W M T n G D (z0::z1::z2::z3::z4::z5::z6::z7::z8::z9::z10::f::F) a w):f.p (dT T D) w:=h.get 11 rfl
theorem St.g12 (h:St W M T n G D (z0::z1::z2::z3::z4::z5::z6::z7::z8::z9::z10::z11::f::F) a w):f.p (dT T D) w:=h.get 12 rfl
theorem St.g13 (h:St W M T n G D (z0::z1::z2::z3::z4::z5::z6::z7::z8::z9::z10::z11::z12::f::F) a w):f.p (dT T D) w:=h.get 13 rfl
theorem St.g14 (h:St W M T n G D (z0::z1::z2::z3::z4::z5::z6::z7::z8::z9::z10::z11::z12::z13::f::F) a w):f.p (dT T D) w:=h.get 14 rfl
theorem St.g15 (h:St W M T n G D (z0::z1::z2::z3::z4::z5::z6::z7::z8::z9::z10::z11::z12::z13::z14::f::F) a w):f.p (dT T D) w:=h.get 15 rfl
theorem St.g16 (h:St W M T n G D (z0::z1::z2::z3::z4::z5::z6::z7::z8::z9::z10::z11::z12::z13::z14::z15::f::F) a w):f.p (dT T D) w:=h.get 16 rfl
theorem St.g17 (h:St W M T n G D (z0::z1::z2::z3::z4::z5::z6::z7::z8::z9::z10::z11::z12::z13::z14::z15::z16::f::F) a w):f.p (dT T D) w:=h.get 17 rfl
theorem St.g18 (h:St W M T n G D (z0::z1::z2::z3::z4::z5::z6::z7::z8::z9::z10::z11::z12::z13::z14::z15::z16::z17::f::F) a w):f.p (dT T D) w:=h.get 18 rfl
theorem St.g19 (h:St W M T n G D (z0::z1::z2::z3::z4::z5::z6::z7::z8::z9::z10::z11::z12::z13::z14::z15::z16::z17::z18::f::F) a w):f.p (dT T D) w:=h.get 19 rfl
theorem St.g20 (h:St W M T n G D (z0::z1::z2::z3::z4::z5::z6::z7::z8::z9::z10::z11::z12::z13::z14::z15::z16::z17::z18::z19::f::F) a w):f.p (dT T D) w:=h.get 20 rfl
theorem St.g21 (h:St W M T n G D (z0::z1::z2::z3::z4::z5::z6::z7::z8::z9::z10::z11::z12::z13::z14::z15::z16::z17::z18::z19::z20::f::F) a w):f.p (dT T D) w:=h.get 21 rfl
theorem St.g24 (h:St W M T n G D (z0::z1::z2::z3::z4::z5::z6::z7::z8::z9::z10::z11::z12::z13::z14::z15::z16::z17::z18::z19::z20::z21::z22::z23::f::F) a w):f.p (dT T D) w:=h.get 24 rfl
end
end
section
instance:ua aO 28 false 1:=⟨Vn⟩
instance:ua aO 30 true 5:=⟨s7⟩
instance:ua aO 45 false 1:=⟨Rg⟩
instance:ua aO 47 true 2:=⟨TS⟩
instance:ua aO 49 true 4:=⟨Gf⟩
instance:oX aO 30 0 0:=⟨by kernel_rfl⟩
instance:oX aO 30 1 2:=⟨by kernel_rfl⟩
instance:oX aO 30 2 3:=⟨by kernel_rfl⟩
instance:oX aO 30 3 4:=⟨by kernel_rfl⟩
instance:oX aO 47 0 0:=⟨by kernel_rfl⟩
instance:oX aO 47 1 1:=⟨by kernel_rfl⟩
instance:oX aO 49 0 0:=⟨by kernel_rfl⟩
instance:oX aO 49 1 2:=⟨by kernel_rfl⟩
instance:Gy aO 22 30:=⟨wJ⟩
instance:Gy aO 28 49:=⟨Ej⟩
instance:ua aO 155 false 1:=⟨Qd⟩
instance:ua aO 156 false 1:=⟨by kernel_rfl⟩
instance:oX aO 158 0 0:=⟨by kernel_rfl⟩
instance:Gy aO 198 45:=⟨Qa⟩
instance:ua aO 92 false 1:=⟨TV⟩
instance:ua aO 94 true 4:=⟨by kernel_rfl⟩
instance:oX aO 94 0 0:=⟨by kernel_rfl⟩
instance:oX aO 94 1 3:=⟨by kernel_rfl⟩
instance:ua aO 108 true 6:=⟨cC⟩
instance:ua aO 22 false 1:=⟨Rf⟩
instance:oX aO 108 0 0:=⟨by kernel_rfl⟩
instance:oX aO 108 1 5:=⟨by kernel_rfl⟩
instance:Gy aO 103 108:=⟨gc⟩
instance:Gy aO 58 22:=⟨Rc⟩
instance:Gy aO 57 37:=⟨Vj⟩
instance:ua aO 27 true 2:=⟨gB⟩
instance:ua aO 3 false 1:=⟨LG⟩
instance:ua aO 34 false 1:=⟨by kernel_rfl⟩
instance:ua aO 35 false 1:=⟨by kernel_rfl⟩
instance:ua aO 37 true 3:=⟨tU⟩
instance:ua aO 4 false 1:=⟨TR⟩
instance:ua aO 59 false 1:=⟨Vo⟩
instance:ua aO 78 true 8:=⟨pA⟩
instance:ua aO 88 true 4:=⟨Em⟩
instance:ua aO 9 false 1:=⟨Pd⟩
instance:oX aO 27 0 0:=⟨by kernel_rfl⟩
instance:oX aO 27 1 1:=⟨by kernel_rfl⟩
instance:oX aO 37 0 0:=⟨by kernel_rfl⟩
instance:oX aO 37 1 1:=⟨by kernel_rfl⟩
instance:oX aO 37 2 2:=⟨by kernel_rfl⟩
instance:oX aO 78 0 0:=⟨by kernel_rfl⟩
instance:oX aO 78 1 2:=⟨by kernel_rfl⟩
instance:oX aO 78 2 3:=⟨by kernel_rfl⟩
instance:oX aO 78 3 4:=⟨by kernel_rfl⟩
instance:oX aO 78 4 5:=⟨by kernel_rfl⟩
instance:oX aO 78 5 6:=⟨by kernel_rfl⟩
instance:oX aO 78 6 7:=⟨by kernel_rfl⟩
instance:oX aO 88 0 0:=⟨by kernel_rfl⟩
instance:oX aO 88 1 2:=⟨by kernel_rfl⟩
instance:oX aO 88 2 3:=⟨by kernel_rfl⟩
instance:Gy aO 23 3:=⟨Ln⟩
instance:Gy aO 34 88:=⟨El⟩
instance:Gy aO 35 78:=⟨rG⟩
instance:Gy aO 59 27:=⟨nC⟩
instance:ua aO 23 false 1:=⟨by kernel_rfl⟩
instance:ua aO 66 false 1:=⟨by kernel_rfl⟩
instance:ua aO 68 true 4:=⟨tV⟩
instance:ua aO 70 true 4:=⟨Pc⟩
instance:ua aO 81 true 3:=⟨Lt⟩
instance:oX aO 68 0 0:=⟨by kernel_rfl⟩
instance:oX aO 68 1 1:=⟨by kernel_rfl⟩
instance:oX aO 68 2 2:=⟨by kernel_rfl⟩
instance:oX aO 68 3 3:=⟨by kernel_rfl⟩
instance:oX aO 70 0 0:=⟨by kernel_rfl⟩
instance:oX aO 70 1 1:=⟨by kernel_rfl⟩
instance:oX aO 70 2 2:=⟨by kernel_rfl⟩
instance:oX aO 70 3 3:=⟨by kernel_rfl⟩
instance:oX aO 83 0 0:=⟨by kernel_rfl⟩
instance:oX aO 83 1 1:=⟨by kernel_rfl⟩
instance:Gy aO 189 9:=⟨H7⟩
instance:Gy aO 33 68:=⟨uM⟩
instance:Gy aO 66 70:=⟨O5⟩
instance:oX aO 81 0 0:=⟨by kernel_rfl⟩
instance:oX aO 81 1 2:=⟨by kernel_rfl⟩
instance:Gy aO 73 81:=⟨Lo⟩
instance:ua aO 140 false 1:=⟨TN⟩
instance:ua aO 142 true 7:=⟨TO⟩
instance:ua aO 189 false 1:=⟨TP⟩
instance:ua aO 191 true 6:=⟨TQ⟩
instance:ua aO 33 false 1:=⟨by kernel_rfl⟩
instance:oX aO 142 0 0:=⟨by kernel_rfl⟩
instance:oX aO 142 1 1:=⟨by kernel_rfl⟩
instance:oX aO 142 2 4:=⟨by kernel_rfl⟩
instance:oX aO 142 3 5:=⟨by kernel_rfl⟩
instance:oX aO 142 4 6:=⟨by kernel_rfl⟩
instance:oX aO 191 3 4:=⟨OA⟩
instance:oX aO 191 4 5:=⟨OB⟩
instance:Gy aO 140 191:=⟨TL⟩
instance:ua aO 181 false 1:=⟨by kernel_rfl⟩
instance:ua aO 223 true 4:=⟨by kernel_rfl⟩
instance:oX aO 184 0 0:=⟨by kernel_rfl⟩
instance:oX aO 184 1 1:=⟨by kernel_rfl⟩
instance:oX aO 184 2 4:=⟨by kernel_rfl⟩
instance:oX aO 191 0 0:=⟨by kernel_rfl⟩
instance:oX aO 191 1 2:=⟨by kernel_rfl⟩
instance:oX aO 191 2 3:=⟨by kernel_rfl⟩
instance:oX aO 223 0 0:=⟨by kernel_rfl⟩
instance:oX aO 223 1 1:=⟨by kernel_rfl⟩
instance:oX aO 223 2 2:=⟨by kernel_rfl⟩
instance:Gy aO 216 220:=⟨Qb⟩
instance:ua aO 220 true 4:=⟨NF⟩
instance:oX aO 220 0 0:=⟨by kernel_rfl⟩
instance:oX aO 220 1 2:=⟨by kernel_rfl⟩
instance:ua aO 119 false 1:=⟨by kernel_rfl⟩
instance:ua aO 133 false 1:=⟨Qc⟩
instance:ua aO 54 false 1:=⟨TU⟩
instance:oX aO 136 0 0:=⟨by kernel_rfl⟩
instance:oX aO 136 1 1:=⟨by kernel_rfl⟩
instance:oX aO 136 2 4:=⟨by kernel_rfl⟩
instance:oX aO 136 3 5:=⟨by kernel_rfl⟩
instance:oX aO 136 4 6:=⟨by kernel_rfl⟩
instance:Pz aO 3 (.int .i64):=⟨Tryz.underlying3⟩
instance:Pz aO 5 (.int .u8):=⟨Tryz.underlying5⟩
instance:Pz aO 9 .string:=⟨Tryz.underlying9⟩
instance:Pz aO 45 (.int .u64):=⟨Tryz.underlying45⟩
instance:Pz aO 150 (.int .u64):=⟨Tryz.underlying150⟩
abbrev pt (b o:Nat):Value:=.pointer (some ⟨b,o,none⟩)
abbrev om (b:Nat) (e:Array MapEntry) (c:Nat):cZ:=.obj b (.map e c)
abbrev TW (T:Nat->Prop) (w:World):Prop:=∀ k,T k->k<w.heap.size
abbrev oZ (x:aE):bG:=[.int .i64 x.o,.int .u64 x.p]
abbrev L6 (x:bM):bG:=[.int .i64 x.b.k,.string x.b.x,.int .i64 x.h.o,.int .u64 x.h.p]
abbrev aZ (x:ac) (v0:Value):bG:=[.int .i64 x.b.k,.string x.b.x,v0,.string x.t,.int .i64 x.a]
abbrev bD (x:aj) (v0:Value):bG:=[.int .i64 x.X.b.k,.string x.X.b.x,v0,.string x.X.t,.int .i64 x.X.a,.string x.i1]
abbrev bn (x:ae):bG:=[.int .i64 x.k,.string x.x]
abbrev bN (x:ar) (v0:Value):bG:=[.int .i64 x.b.k,.string x.b.x,.string x.t,v0,.int .i64 x.l,.int .i64 x.u,.int .i64 x.a,.bool x.y]
abbrev uA (x:be):bG:=[.int .i64 x.b.k,.string x.b.x,.string x.t,.int .i64 x.l]
abbrev bA (x:ap) (v0 v1:Value):bG:=[.int .i64 x.r,v0,v1]
abbrev bQ (x:bH) (v0:Value):bG:=[v0,.int .i64 x.k1]
abbrev qa (x:ci):bG:=[.int .i64 x.b.k,.string x.b.x,.string x.t]
abbrev L4 (x:dz):bG:=[.bool x.w,.bool x.v1,.int .i64 x.N,.int .i64 x.d1]
abbrev zk (x:aL) (v0:Value):bG:=[.bool x.q,v0,.int .i64 x.j,.int .i64 x.C]
abbrev L5 (x:dD):bG:=[.int .i64 x.r1.k,.string x.r1.x,.int .i64 x.s1.k,.string x.s1.x]
abbrev PC (x:uR):bG:=[.bool x.u1,.string x.t,.int .i64 x.t1.k,.string x.t1.x]
abbrev LL:=List (ae×(List ae))
abbrev LB:=List (ae×ByteArray)
abbrev LO:=List (ae×Bool)
abbrev LR:=List ar
abbrev LI:=List be
abbrev LK:=List ae
abbrev LU:=List aL
abbrev LV:=bG
abbrev AM:=Array MapEntry
abbrev LN:=List Int
abbrev LY:=List ByteArray
abbrev LC:=List ci
abbrev bu (v:Value) (c:bG):cZ:=.own v 30 ai.size c
abbrev zN (v:Value) (c:bG):cZ:=.own v 70 dV.size c
abbrev oO (v:Value) (c:bG):cZ:=.own v 81 bw.size c
abbrev vQ (v:Value) (c:bG):cZ:=.own v 220 kw.size c
abbrev aI (v:Value) (c:bG):cZ:=.own v 108 aD.size c
abbrev bX (v:Value) (c:bG):cZ:=.own v 88 ad.size c
abbrev aJ (v:Value) (c:bG):cZ:=.own v 27 ah.size c
abbrev vR (v:Value) (c:bG):cZ:=.own v 49 a8.size c
abbrev bo (v:Value) (c:bG):cZ:=.own v 78 aa.size c
abbrev gV (v:Value) (c:bG):cZ:=.own v 68 ay.size c
abbrev s9 (e:Array MapEntry) (x:List (ae×ByteArray)):co:=ir ah true aY.str false e x
abbrev wL (e:Array MapEntry) (x:List (ae×(List ae))):co:=ir ah true (aY.slice ah) false e x
abbrev wu (e:Array MapEntry) (x:List (ae×Bool)):co:=ir ah true aY.bool false e x
abbrev xS (b:Nat) (v:Value) (r:Int) (v1 v2:Value) (m k:Nat):cZ:=.box b [v,.int .i64 r,v1,v2,.map (some m),.map (some k)] 184
abbrev xE (b d:Nat) (r:Int) (v1 v2:Value) (m:Nat) (v3:Value) (e:Int):cZ:=.box b [.pointer (some ⟨d,0,none⟩),.int .i64 r,v1,v2,.map (some m),v3,.int .i64 e] 136
end
section
variable {Q:Exit->Act->World->Prop} {a:Act} {o:Oper} {ops:Array Oper}
section
variable {P:Program}
theorem sW (w:World) (t t' ty e:TypeId) (size bytes:Nat) (E:GE P t e size bytes) (b o dLen dCap:Nat) (sb soff sLen sCap n:Nat) (cs:bG)
  (hn:n=Nat.min sLen dLen) (hl:cs.length=n*size) (hsrc:∀ j u,cs[j]? = some u->w.cell? ⟨sb,soff+j,none⟩=some u)
  (hc:∀ j,j<cs.length->(w.cell? ⟨b,o+j,none⟩).isSome=true) (hf:∀ j,j<cs.length->w.frozen? ⟨b,o+j,none⟩=false) (h1:∀ u∈cs,u.oneCell'=true) :
  (Builtin.copy_ #[t,t'] ty #[.slice (some ⟨b,o,none⟩) dLen dCap,.slice (some ⟨sb,soff,none⟩) sLen sCap]).run P w = .ok (goInt n) (w.setCells b o cs):=by
 obtain⟨ht,⟨i,z,hi,hz,hsize,hby,hzs⟩,hpos⟩:=E;subst hsize hn;have hfc:=run_firstCells_some (P:=P) w i.size (Nat.min sLen dLen) ⟨sb,soff,none⟩ sLen sCap cs hl (fun j u hu=>by rw [Addr.add_lit]; exact hsrc j u hu);have hst:=run_storeCells_cells (P:=P) b o cs 0 w (by simpa using hc) (by simpa using hf) h1;simp only [mz] at hst;simp [Builtin.copy_,run_underlying ht,Builtin.lenOf,sizeOf,typeInfo,hi,hfc,hst]
theorem Bw (w:World) {K:Act->World->Prop} (d s:Operand) (t t':TypeId)
  (ho:o.op = .call { callee:=.builtin .copy,args:=#[d,s],argTypes:=#[t,t'] }) (v u:Value) (hd:a.eval d=v) (hs:a.eval s=u) {v':Value} {w':World}
  (hr:(Builtin.copy_ #[t,t'] o.type #[v,u]).run P w = .ok v' w') (h:K (a.put o.dst v') w'):o.wp P a w K Q:=by
 unfold Oper.wp execOp;simp only [ho,resolve,invoke,builtin,Sem.run_bind,Sem.run_pure,Result.andThen_ok,Fm,vw,BC,hd,hs,hr];exact h
theorem Iq (w:World) {rest:List Oper} (hgd:o.guard=none) (d s:Operand) (t t':TypeId)
  (ho:o.op = .call { callee:=.builtin .copy,args:=#[d,s],argTypes:=#[t,t'] }) (v u:Value) (hd:a.eval d=v) (hs:a.eval s=u) {v':Value} {w':World}
  (hr:(Builtin.copy_ #[t,t'] o.type #[v,u]).run P w = .ok v' w') (h:wpList P ops Q rest (a.put o.dst v') w'):wpList P ops Q (o::rest) a w :=
 wpList_plain hgd fun _ hK=>Bw w d s t t' ho v u hd hs hr (hK _ _ h)
theorem E1 {w:World} {K:Act->World->Prop} {E:Prop}
  (hg:o.guard=none) (d x:Operand) (dT sT:TypeId) (hop:o.op=Op.call { callee:=Callee.builtin Builtin.copy,args:=#[d,x],argTypes:=#[dT,sT] })
  (v u:Value) (hd:a.eval d=v) (hx:a.eval x=u) {v':Value} {w':World} (hr:(Builtin.copy_ #[dT,sT] o.type #[v,u]).run P w = .ok v' w') (hK:K (a.put o.dst v') w') :
  if Region.wanted o (yielded ops a.tmps)=true then Oper.wp P o a w K Q else E:=by
 rw [if_pos (by simp [Region.wanted,hg])];exact Bw w d x dT sT hop v u hd hx hr hK
theorem xy (w:World) {rest:List Oper} (hgd:o.guard=none) (d s:Operand) (t t':TypeId)
  (ho:o.op = .call { callee:=.builtin .append,args:=#[d,s],argTypes:=#[t,t'] }) (v u:Value) (hd:a.eval d=v) (hs:a.eval s=u) {v':Value} {w':World}
  (hr:(Builtin.append_ #[t,t'] o.type #[v,u]).run P w = .ok v' w') (h:wpList P ops Q rest (a.put o.dst v') w'):wpList P ops Q (o::rest) a w :=
 wpList_plain hgd fun _ hK=>by
  unfold Oper.wp execOp;simp only [ho,resolve,invoke,builtin,Sem.run_bind,Sem.run_pure,Result.andThen_ok,Fm,vw,BC,hd,hs,hr];exact hK _ _ h
end
theorem Ju {T X D:bG} {cs c1 c2:Array Value} {off:Nat}
  (h0:∀ j u,T[j]? = some u->cs[off+j]? = some u)
  (hd:∀ j u,D[j]? = some u->c1[off+T.length+X.length+j]? = some u) (h1:∀ j,j<off+T.length->c1[j]? = cs[j]?)
  (hx:∀ j u,X[j]? = some u->c2[off+T.length+j]? = some u) (h2:∀ j,(j<off+T.length∨off+T.length+X.length<=j)->c2[j]? = c1[j]?) :
  ∀ j u,(T++X++D)[j]? = some u->c2[off+j]? = some u:=by
 intro j u hu;by_cases hT:j<T.length
 ·rw [cA,jm hT] at hu;rw [h2 _ (.inl (by omega)),h1 _ (by omega)];exact h0 j u hu
 ·by_cases hX:j<T.length+X.length
  ·rw [jm (by rw [br]; exact hX),jn (by omega)] at hu;have:=hx _ u hu;rwa [show off+T.length+(j-T.length)=off+j by omega] at this
  ·rw [jn (by rw [br]; omega),br] at hu;have:=hd _ u hu;rw [show off+T.length+X.length+(j-(T.length+X.length))=off+j by omega] at this;rw [h2 _ (.inr (by omega))];exact this
theorem Ig {T X D:bG} {cs c1 c2:Array Value} {off:Nat}
  (h0:∀ j u,T[j]? = some u->cs[off+j]? = some u)
  (hx:∀ j u,X[j]? = some u->c1[off+T.length+j]? = some u) (h1:∀ j,(j<off+T.length∨off+T.length+X.length<=j)->c1[j]? = cs[j]?)
  (hd:∀ j u,D[j]? = some u->c2[off+T.length+X.length+j]? = some u) (h2:∀ j,j<off+T.length+X.length->c2[j]? = c1[j]?) :
  ∀ j u,(T++X++D)[j]? = some u->c2[off+j]? = some u:=by
 intro j u hu;by_cases hT:j<T.length
 ·rw [cA,jm hT] at hu;rw [h2 _ (by omega),h1 _ (.inl (by omega))];exact h0 j u hu
 ·by_cases hX:j<T.length+X.length
  ·rw [jm (by rw [br]; exact hX),jn (by omega)] at hu;have:=hx _ u hu;rw [show off+T.length+(j-T.length)=off+j by omega] at this;rw [h2 _ (by omega)];exact this
  ·rw [jn (by rw [br]; omega),br] at hu;have:=hd _ u hu;rwa [show off+T.length+X.length+(j-(T.length+X.length))=off+j by omega] at this
end
section
theorem KT:GE aO 22 30 5 72:=wV (by kernel_rfl:Bh aO 22=some (30,5,72))
set_option maxHeartbeats 2000000 in
set_option maxRecDepth 100000 in
theorem I2 (n:Nat) (hn:n<=1000000000) (w:World) :
  Calls aO 92 #[.slice none 0 0,.int .i64 n] w fun e w' =>
   ∃ v',e = .returned v'/\mN w' 0 30 5 v' []/\w.grownBy w' none/\(∀ k,v'.ownBlock=some k->w.heap.size<=k):=by
 rcases A3 n with rfl | h0
 ·go_enter Tryz.func92,Tryz.ntmps92
  go_wp2
  go_ret
  exact⟨.slice none 0 0,rfl,mN.nil_ _ _ _ _,⟨rfl,rfl,rfl,bx _,fun _ _ _=>rfl⟩,fun k O=>by simp [Value.ownBlock] at O⟩
 ·obtain⟨_,⟨i0,z,hi0,hz0,hsize,hby,hzs⟩,_⟩:=KT;have hn0:(0:Int)<(n:Int):=by omega
  have hn1:¬ ((n:Int)<0):=by omega
  have hw:IntKind.i64.wrap (n:Int)=n:=IntWalk.i64_in _ (by omega);have fin:∀ (zc:Array Value),zc.size=5->mN ((w.alloc (Obj.cells (Builtin.zeroCells zc n++Builtin.zeroCells zc (grownCap w n 0 30-n)) 30)).drew) 0 30 5 (.slice (some ⟨w.heap.size,0,none⟩) 0 (grownCap w n 0 30)) []:=fun zc hz=>by
   have hGn:n<=grownCap w n 0 30:=grownCap_ge w _ _ _;have hG63:grownCap w n 0 30<=maxLen:=grownCap_le_maxLen w _ _ _ (by unfold maxLen; omega);refine .inr ⟨w.heap.size,0,0,_,_,rfl,rfl,cT _,⟨(0,0),heap_alloc_new w _,.inl rfl⟩,cT _,hG63,?_,fun j u hu=>by simp at hu⟩;simp only [Kx,size_zeroCells,hz];omega
  have hold:(Builtin.firstCells i0.size 0 (.slice none 0 0)).run aO w.drew = .ok (([]:bG).toArray) w.drew:=by simp [Builtin.firstCells]
  have hrz:∀ ty,(Builtin.append_ #[22,3] ty #[.slice none 0 0,.int .i64 (n:Int)]).run aO w =
    .ok (.slice (some ⟨w.heap.size,0,none⟩) (0+n) (grownCap w (0+n) 0 30)) (w.drew.alloc (.cells (([]:bG).toArray++Builtin.zeroCells z.cells n++Builtin.zeroCells z.cells (grownCap w (0+n) 0 30-(0+n))) 30)):=fun ty =>
   Lib.run_append_grow_zeros w 22 3 ty 30 i0 z .i64 .i64 Tryz.underlying22 Tryz.underlying3 hi0 hz0 none 0 0 [] hold n h0 (by omega) (by omega) (by omega) (by rw [hby]; omega) (by rw [hby]; exact growslice_fits (by omega) (by omega))
  obtain⟨C,hC⟩:∃ C:Array Value,C=z.cells:=⟨_,rfl⟩;rw [<- hC] at hzs hrz;have fin2:=fin C hzs;simp only [kj] at hrz;obtain⟨W1,hW1⟩:∃ W1,W1=w.drew.alloc (.cells (([]:bG).toArray++Builtin.zeroCells C n++Builtin.zeroCells C (grownCap w n 0 30-n)) 30):=⟨_,rfl⟩;rw [<- hW1] at hrz;clear hi0 hz0 hsize hby hold fin hC
  go_enter Tryz.func92,Tryz.ntmps92
  go_wp2_with (at_builtin; refine xy _ rfl _ _ 22 3 rfl _ _ rfl rfl (hrz _) ?_)
  go_ret
  exact⟨_,rfl,fin2,⟨rfl,rfl,rfl,by simp,fun k O _=>Below.heap_alloc w _ k O⟩,fun k O=>by simp [Value.ownBlock] at O; omega⟩
theorem KY {α:Type} {R:aY α} (C:R.size=5) (T:Nat->Prop) (L:World) (hT:∀ k,T k->k<L.heap.size) (n:Int) (h0:decide (0<=n)=true) (hr:decide (n<=1000000000)=true):bm aO No 92 [.slice none 0 0,.int .i64 n] L (fun v w'=>∃ (v2:Value) (eK:bG),v=v2/\jy R T L w' [.own v2 30 R.size eK] 30 v2 eK []):=by
 have h0:=of_decide_eq_true h0;have hr:=of_decide_eq_true hr;obtain⟨k,rfl⟩:∃ k:Nat,n=k:=⟨n.toNat,by omega⟩;refine (I2 k (by omega) L).mono ?_;rintro e w' ⟨v',rfl,g1,g2,g3⟩;refine⟨v',rfl,(Kt.grown g2).mono fun j hj=>(by cases hj),v',[],rfl,?_⟩;exact⟨by rw [C]; exact g1,g3,bf.nil_ _ _ _⟩
end
section
set_option maxRecDepth 100000
set_option maxHeartbeats 4000000
variable (T:Nat->Prop) (L:World) (hT:TW T L)
include hT
noncomputable section
def iA (c:ar):=gd (cm (([]:List ae).length+c.v.length)) <| some ((ar.mk c.b c.t (([]:List ae)++c.v) c.l c.u c.a c.y))
theorem pg (b:ar) (h:Value) (g:aQ ah T L h b.v) (y:ar) (B:iA b=some y):bm aO No 126 [.agg (bN b h).toArray] L (fun v w'=>∃ (f:Value) (eK:bG),v = .agg (bN y f).toArray/\jy ah T L w' [aJ f eK] 27 f eK y.v):=by
 refine en Tryz.func126 Tryz.ntmps126 hT fun a I=>?_;replace I:=I.fS (aQ.dn g);unfold iA at B;refine kB I fun j l a w O I=>?_;refine ka I jB fun k m a w O I=>?_;refine an I fun a I=>?_;replace I:=I.zn ah 27 (by decide);obtain⟨d,B⟩:=a6 B;refine wl rfl (cr (R:=ah) (xs:=([]:List ae)) (ys:=b.v) I ol (by decide) (by decide) rfl rfl 0 rfl 0 rfl 1 rfl d rfl fun e c a w O I=>?_);refine go I fun a w I=>?_;cases B
 refine aG I rfl (rC 1 I) ?_;exact⟨e,c,rfl,I.zo ⟨.inr (az (i:=0) rfl),trivial⟩ 0 rfl 0 rfl⟩
def rR (b:LR):=some (b)
def oP (e c:LR) (b:Int):Option (Fl (LR×Int) (LR)):=cond (decide (b<(e.length:Int))) ((bp e b).bind fun f=>(iA f).bind fun d=>gd (cm (c.length+([d]).length)) <| some (.go ((c++([d])),IntKind.i64.wrap (b+1)))) (some (.out c))
def tP (b:LR):=(loop (fun s:LR×Int=>oP b s.1 s.2) (([]:List ar),0)).bind fun r=>rR r
theorem F6 (g:LR) (q:Value) (E:aQ aa T L q g) (y:LR) (B:tP g=some y):bm aO No 125 [q] L (fun v w'=>∃ (A:Value) (eK:bG),v=A/\jy aa T L w' [bo A eK] 78 A eK y):=by
 refine en Tryz.func125 Tryz.ntmps125 hT fun a I=>?_;replace I:=I.fS (aQ.dn E);unfold tP at B;refine an I fun a I=>?_;refine aK (J:=fun a w=>∃ (j:LR) (f:Value) (d:LV),St L No T 19 [(3,f)] [bo f d] [au aa d j] a w/\rR j=some y) ?_ ?_
 ·refine an I fun a I=>?_;replace I:=I.zn aa 78 (by decide);obtain⟨X,D,hMo1⟩:=bd B;refine bz _ (fun s a w=>∃ (c:LR) (e:Int) (k:Value) (h:LV),(c,e)=s/\St L No T 19 [(3,k),(6,q),(7,am (g.length:Int)),(8,am e)] [bo k h] [au aa h c,aT aa q g] a w) D ⟨_,_,_,_,rfl,I.mt [0] [0,1]⟩ ?_;rintro s a w P ⟨c,e,k,h,rfl,I⟩ B hf1;have B:oP g c e=some P:=B;unfold oP at B;refine an I fun a I=>?_;refine ax ?_;rcases cd B with⟨t,B⟩|⟨t,B⟩
  ·refine an I fun a I=>?_;refine ax ?_;refine an I fun a I=>?_;obtain⟨r,n,B⟩:=bd B;refine wl rfl (bv (R:=aa) I rG pA rfl rfl 1 rfl n rfl fun F S K u a I=>?_);obtain⟨V,rfl,p⟩:=u;replace I:=I.fS p;refine kA I jB fun G Q a w O I=>?_;refine go I fun a w I=>?_;obtain⟨b,o,B⟩:=bd B;refine kc I JK (pg _ _ I.dlt r _ I.g0 _ o) fun _ w C a O U=>?_;obtain⟨l,M,he,m⟩:=C;obtain rfl:=he.symm;have I:=sN U m;refine wl rfl (bq (ps:=[(0,.tmp 14)]) I CA jB (zl:=[am 0,bc cu,bc cu,.slice none 0 0,am 0,am 0,am 0,.bool false]) (by kernel_rfl) rfl (us:=[(bN b l)]) ⟨rfl,trivial⟩ (ws:=(bN b l)) rfl rfl rfl rfl fun H a w O I=>?_);replace I:=I.zf (R:=ah) 1 rfl 0 rfl;replace I:=(I.lit (R:=aa) (us:=(bN b l)) (xs:=[b]) 0 rfl (by decide) (aN (R:=aa) (x:=b) (⟨_,rfl,I.g0⟩)) rfl rfl).zf (R:=aa) 0 rfl 0 rfl;obtain⟨z,B⟩:=a6 B;refine wl rfl (cr (R:=aa) (xs:=c) (ys:=[b]) I CA (by decide) (by decide) rfl rfl 1 rfl 6 rfl 0 rfl z rfl fun W N a w O I=>?_);exact fz
  exact fz
 rintro a w ⟨j,f,d,I,B⟩;unfold rR at B;refine an I fun a I=>?_;cases B
 refine aG I rfl (aF I rfl aH) ?_;exact⟨f,d,rfl,I.zo ⟨.inr (az (i:=0) rfl),trivial⟩ 0 rfl 0 rfl⟩
def lF (b:ap):=gd (cm (([]:List be).length+b.i.length)) <| (tP b.s).bind fun c=>some ((ap.mk b.r (([]:List be)++b.i) c))
theorem lG (b:ap) (p q:Value) (n:aQ ad T L p b.i) (o:aQ aa T L q b.s) (y:ap) (B:lF b=some y):bm aO No 67 [.agg (bA b p q).toArray] L (fun v w'=>∃ (d:Value) (rJ:bG) (e:Value) (KP:bG),v = .agg (bA y d e).toArray/\jy ad T L w' [bX d rJ,bo e KP] 88 d rJ y.i/\jy aa T L w' [bX d rJ,bo e KP] 78 e KP y.s/\(∀ k,d.ownBlock=some k->e.ownBlock≠some k)):=by
 refine en Tryz.func67 Tryz.ntmps67 hT fun a I=>?_;replace I:=(I.fS (aQ.dn n)).fS (aQ.dn o);unfold lF at B;refine kB I fun r u a w O I=>?_;refine ka I vx fun t x a w O I=>?_;refine an I fun a I=>?_;replace I:=I.zn ad 88 (by decide);obtain⟨j,B⟩:=a6 B;refine wl rfl (cr (R:=ad) (xs:=([]:List be)) (ys:=b.i) I FJ (by decide) (by decide) rfl rfl 0 rfl 0 rfl 2 rfl j rfl fun l g a w O I=>?_);refine go I fun a w I=>?_;obtain⟨z,f,B⟩:=bd B;refine kc I Se (F6 _ _ I.dlt b.s _ I.g2 _ f) fun _ w C a O U=>?_;obtain⟨m,h,he,c⟩:=C;obtain rfl:=he.symm;have I:=sN U c;refine go I fun a w I=>?_;cases B
 refine aG I rfl (rC 2 I) ?_;exact⟨l,g,m,h,rfl,I.zo ⟨.inr (az (i:=1) rfl),⟨.inr (az (i:=0) rfl),trivial⟩⟩ 1 rfl 1 rfl,I.zo ⟨.inr (az (i:=1) rfl),⟨.inr (az (i:=0) rfl),trivial⟩⟩ 0 rfl 0 rfl,(I.zp 1 rfl 0 rfl (by decide))⟩
def iL (b:Int):=some (b)
def iM (c:ByteArray) (d b:Int):Option (Fl (Int×Int) (Fl (Int) Int)):=cond (decide (b<(c.size:Int))) ((bp c.toList b).bind fun e=>cond (decide (((e.toNat:Int):Int)<48)) (some (.out (.out (-1)))) ((bp c.toList b).bind fun f=>cond (decide ((57:Int)<(f.toNat:Int))) (some (.out (.out (-1)))) ((bp c.toList b).bind fun g=>some (.go (IntKind.i64.wrap ((IntKind.i64.wrap (10*d))+(IntKind.i64.wrap (IntKind.u8.wrap ((g.toNat:Int)-48)))),IntKind.i64.wrap (b+1)))))) (some (.out (.go d)))
def dw (c:ByteArray) (b:Bool):=cond b (some ((-1))) ((loop (fun s:Int×Int=>iM c s.1 s.2) (0,0)).bind fun r=>Fl.el r (fun s=>iL s) (fun y=>some (y)))
def ml (b:ByteArray):=cond (b.toList==cu.toList) (dw b true) (cond (decide ((9:Int)<(b.size:Int))) (dw b true) ((bp b.toList 0).bind fun c=>cond (((c.toNat:Int):Int)==48) (dw b (!(b.toList==(ByteArray.mk #[48]).toList))) (dw b false)))
theorem wv (b:ByteArray) (y:Int) (B:ml b=some y):bm aO No 141 [bc b] L (fun v w'=>v=am y):=by
 refine en Tryz.func141 Tryz.ntmps141 hT fun a I=>?_;unfold ml at B;refine an I fun a I=>?_;refine ax ?_;refine aK (J:=fun a w=>∃ (e:Bool),St L No T 46 [(0,bc b),(20,.bool e)] [] [] a w/\dw b e=some y) ?_ ?_
 ·refine an I fun a I=>?_;rcases cd B with⟨m,B⟩|⟨m,B⟩
  ·exact fz
  refine an I fun a I=>?_;rcases cd B with⟨g,B⟩|⟨g,B⟩
  ·exact fz
  refine an I fun a I=>?_;obtain⟨x,l,B⟩:=bd B;refine qg I g (A0 I Tryz.underlying9 rfl rfl l) fun a I=>?_;exact fz
 rintro a w ⟨e,I,B⟩;unfold dw at B;rcases cd B with⟨n,B⟩|⟨n,B⟩
 ·exact fz
 refine an I fun a I=>?_;refine aK (J:=fun a w=>∃ (f:Int),St L No T 46 [(3,am f)] [] [] a w/\iL f=some y) ?_ ?_
 ·refine an I fun a I=>?_;obtain⟨A,q,hMo1⟩:=bd B;refine bz _ (fun s a w=>∃ (d c:Int),(d,c)=s/\St L No T 46 [(0,bc b),(3,am d),(4,am c)] [] [] a w) q ⟨_,_,rfl,I.mt [] []⟩ ?_;rintro s a w z ⟨d,c,rfl,I⟩ B hf1;have B:iM b d c=some z:=B;unfold iM at B;refine ax ?_;refine an I fun a I=>?_;rcases cd B with⟨o,B⟩|⟨o,B⟩
  ·refine an I fun a I=>?_;refine ax ?_;refine an I fun a I=>?_;refine ax ?_;refine ip ?_;refine an I fun a I=>?_;obtain⟨r,i,B⟩:=bd B;refine qy I (A0 I Tryz.underlying9 rfl rfl i) fun a I=>?_;refine an I fun a I=>?_;rcases cd B with⟨h,B⟩|⟨h,B⟩
   ·exact fz
   refine an I fun a I=>?_;obtain⟨t,j,B⟩:=bd B;refine qg I h (A0 I Tryz.underlying9 rfl rfl j) fun a I=>?_;refine an I fun a I=>?_;rcases cd B with⟨p,B⟩|⟨p,B⟩
   ·exact fz
   refine an I fun a I=>?_;obtain⟨u,k,B⟩:=bd B;refine qy I (A0 I Tryz.underlying9 rfl rfl k) fun a I=>?_;refine an I fun a I=>?_;exact fin
  exact fz
 rintro a w ⟨f,I,B⟩;unfold iL at B;exact fz
def jD (c:Int) (b:Bool):=cond b (some (c)) (some ((-1)))
def jN (c:ae):=(ml c.x).bind fun b=>cond (decide ((30:Int)<=c.k)) (cond (decide (c.k<=32)) (jD b (decide (b<=99))) (jD b false)) (jD b false)
theorem qw (c:ae) (y:Int) (B:jN c=some y):bm aO No 86 [.agg (bn c).toArray] L (fun v w'=>v=am y):=by
 refine en Tryz.func86 Tryz.ntmps86 hT fun a I=>?_;unfold jN at B;refine kB I fun f g a w O I=>?_;refine an I fun a I=>?_;refine ax ?_;refine an I fun a I=>?_;obtain⟨d,e,B⟩:=bd B;refine kF I PL (wv _ _ I.dlt c.x _ e) fun w a I=>?_;refine aK (J:=fun a w=>∃ (b:Bool),St L No T 20 [(3,am d),(18,.bool b)] [] [] a w/\jD d b=some y) ?_ ?_
 ·exact fz
 rintro a w ⟨b,I,B⟩;unfold jD at B;exact fz
def fh (b:Bool):=some (b)
def gl (b:ae) (c:Bool):=cond c ((jN b).bind fun d=>some (decide ((0:Int)<=d))) (cond (decide ((1:Int)<=b.k)) (cond (decide (b.k<=22)) (cond (decide (((b.x.size:Int):Int)<=1073741824)) (cond (b.x.toList==cu.toList) (fh true) (cond (b.k != 1) (fh (b.k != 21)) (fh false))) (fh false)) (fh false)) (fh false))
def cP (b:ae):=cond (decide ((30:Int)<=b.k)) (gl b (decide (b.k<=32))) (gl b false)
theorem kd (b:ae) (y:Bool) (B:cP b=some y):bm aO No 34 [.agg (bn b).toArray] L (fun v w'=>v = .bool y):=by
 refine en Tryz.func34 Tryz.ntmps34 hT fun a I=>?_;unfold cP at B;refine kB I fun e h a w O I=>?_;refine an I fun a I=>?_;refine ax ?_;refine aK (J:=fun a w=>∃ (d:Bool),St L No T 43 [(1,pt e 0),(10,.bool d)] [.box e (bn b) 27] [] a w/\gl b d=some y) ?_ ?_
 ·exact fz
 rintro a w ⟨d,I,B⟩;unfold gl at B;rcases cd B with⟨g,B⟩|⟨g,B⟩
 ·refine an I fun a I=>?_;obtain⟨i,f,B⟩:=bd B;refine kE I On (qw _ _ I.dlt b _ f) fun w a I=>?_;exact fz
 refine an I fun a I=>?_;refine aK (J:=fun a w=>∃ (c:Bool),St L No T 43 [(2,.bool c)] [] [] a w/\fh c=some y) ?_ ?_
 ·exact fz
 rintro a w ⟨c,I,B⟩;unfold fh at B;exact fz
def kX (b:Bool):=some (b)
def cO (b:ae):=cond (b.k==1) (kX true) (cond (b.k==2) (kX true) (kX (b.k==30)))
theorem ez (c:ae) (y:Bool) (B:cO c=some y):bm aO No 35 [.agg (bn c).toArray] L (fun v w'=>v = .bool y):=by
 refine en Tryz.func35 Tryz.ntmps35 hT fun a I=>?_;unfold cO at B;refine kB I fun d e a w O I=>?_;refine an I fun a I=>?_;refine aK (J:=fun a w=>∃ (b:Bool),St L No T 16 [(2,.bool b)] [] [] a w/\kX b=some y) ?_ ?_
 ·exact fz
 rintro a w ⟨b,I,B⟩;unfold kX at B;exact fz
def mj (b c:ae):=cond (decide (b.k<c.k)) (some ((-1))) (cond (decide (c.k<b.k)) (some (1)) ((pE b.x c.x).bind fun d=>some (d)))
theorem pN (hLv:dC T L) (b c:ae) (y:Int) (B:mj b c=some y):bm aO No 36 [.agg (bn b).toArray,.agg (bn c).toArray] L (fun v w'=>v=am y):=by
 refine en Tryz.func36 Tryz.ntmps36 hT fun a I=>?_;replace I:=I.fact bK (dC.dn hLv);unfold mj at B;refine kB I fun g i a w O I=>?_;refine kb I fun h j a w O I=>?_;refine an I fun a I=>?_;refine ax ?_;refine an I fun a I=>?_;rcases cd B with⟨e,B⟩|⟨e,B⟩
 ·exact fz
 refine an I fun a I=>?_;rcases cd B with⟨f,B⟩|⟨f,B⟩
 ·exact fz
 refine an I fun a I=>?_;obtain⟨k,d,B⟩:=bd B;refine kE I KN (pF _ _ I.dlt I.g0 b.x c.x _ d) fun w a I=>?_;exact fz
def gW (b:Bool):=some (b)
def sR (b:Int):=cond (b==7) (gW true) (cond (b==14) (gW true) (cond (b==17) (gW true) (gW (b==18))))
theorem C1 (c:Int) (y:Bool) (B:sR c=some y):bm aO No 166 [am c] L (fun v w'=>v = .bool y):=by
 refine en Tryz.func166 Tryz.ntmps166 hT fun a I=>?_;unfold sR at B;refine an I fun a I=>?_;refine aK (J:=fun a w=>∃ (b:Bool),St L No T 17 [(2,.bool b)] [] [] a w/\gW b=some y) ?_ ?_
 ·exact fz
 rintro a w ⟨b,I,B⟩;unfold gW at B;exact fz
def gX (b:Bool):=some (b)
def dZ (b:ae):=cond (b.k==32) (gX true) (cond (decide ((1:Int)<=b.k)) (cond (decide (b.k<=22)) ((sR b.k).bind fun c=>gX c) (gX false)) (gX false))
theorem fg (d:ae) (y:Bool) (B:dZ d=some y):bm aO No 130 [.agg (bn d).toArray] L (fun v w'=>v = .bool y):=by
 refine en Tryz.func130 Tryz.ntmps130 hT fun a I=>?_;unfold dZ at B;refine kB I fun h i a w O I=>?_;refine an I fun a I=>?_;refine aK (J:=fun a w=>∃ (b:Bool),St L No T 21 [(2,.bool b)] [] [] a w/\gX b=some y) ?_ ?_
 ·refine an I fun a I=>?_;rcases cd B with⟨f,B⟩|⟨f,B⟩
  ·exact fz
  refine an I fun a I=>?_;rcases cd B with⟨g,B⟩|⟨g,B⟩
  ·refine an I fun a I=>?_;rcases cd B with⟨c,B⟩|⟨c,B⟩
   ·refine an I fun a I=>?_;obtain⟨j,e,B⟩:=bd B;refine wg I rfl rfl rfl c (bT I Sw rfl rfl (C1 _ _ I.dlt d.k _ e) fun _ w C a O U=>?_);obtain rfl:=C;have I:=fA U;exact fz
   exact fz
  exact fz
 rintro a w ⟨b,I,B⟩;unfold gX at B;exact fz
def cX (b:Bool):=some (b)
def ne (c:ar):=(cP c.b).bind fun d=>cond d ((cO c.b).bind fun e=>cond (!(e)) (cond (decide (((c.t.size:Int):Int)<=1073741824)) (cond (decide ((c.v.length:Int)<=4000)) (cond (decide ((0:Int)<=c.l)) (cond (decide (c.l<=c.u)) (cond (decide (c.u<=1073741824)) (cond (decide ((1:Int)<=c.a)) (cond (decide (c.a<=1073741824)) (cond (!(c.y)) (cX true) ((dZ c.b).bind fun f=>cX f)) (cX false)) (cX false)) (cX false)) (cX false)) (cX false)) (cX false)) (cX false)) (cX false)) (cX false)
def nh (c:ar) (b:Int):Option (Fl (Int) (Fl (Unit) Bool)):=cond (decide (b<(c.v.length:Int))) ((bp c.v b).bind fun d=>(cP d).bind fun e=>cond (!(e)) (some (.out (.out false))) (some (.go (IntKind.i64.wrap (b+1))))) (some (.out (.go ())))
def sg (b:ar):=(loop (fun s:Int=>nh b s) 0).bind fun r=>Fl.el r (fun s=>ne b) (fun y=>some (y))
theorem D9 (c:ar) (g:Value) (G:aQ ah T L g c.v) (y:Bool) (B:sg c=some y):bm aO No 80 [.agg (bN c g).toArray] L (fun v w'=>v = .bool y):=by
 refine en Tryz.func80 Tryz.ntmps80 hT fun a I=>?_;replace I:=I.fS (aQ.dn G);unfold sg at B;refine kB I fun d P a w O I=>?_;refine an I fun a I=>?_;refine aK (J:=fun a w=>St L No T 74 [(1,pt d 0)] [.box d (bN c g) 78] [aT ah g c.v] a w/\ne c=some y) ?_ ?_
 ·refine an I fun a I=>?_;obtain⟨Z,F,hMo1⟩:=bd B;refine bz _ (fun s a w=>∃ (e:Int),e=s/\St L No T 74 [(1,pt d 0),(6,g),(7,am (c.v.length:Int)),(8,am e)] [.box d (bN c g) 78] [aT ah g c.v] a w) F ⟨_,rfl,I.mt [0] [0]⟩ ?_;rintro s a w N ⟨e,rfl,I⟩ B hf1;have B:nh c e=some N:=B;unfold nh at B;refine an I fun a I=>?_;refine ax ?_;rcases cd B with⟨p,B⟩|⟨p,B⟩
  ·refine an I fun a I=>?_;refine ax ?_;refine an I fun a I=>?_;obtain⟨o,j,B⟩:=bd B;refine wl rfl (bv (R:=ah) I nC gB rfl rfl 0 rfl j rfl fun H S M q a I=>?_);obtain rfl:=q;refine kA I jV fun K Q a w O I=>?_;refine go I fun a w I=>?_;obtain⟨Y,n,B⟩:=bd B;refine kE I IU (kd _ _ I.dlt o _ n) fun w a I=>?_;exact fz
  exact fz
 rintro a w ⟨I,B⟩;unfold ne at B;refine aK (J:=fun a w=>∃ (f:Bool),St L No T 74 [(2,.bool f)] [] [] a w/\cX f=some y) ?_ ?_
 ·refine an I fun a I=>?_;obtain⟨V,k,B⟩:=bd B;refine kF I IU (kd _ _ I.dlt c.b _ k) fun w a I=>?_;rcases cd B with⟨h,B⟩|⟨h,B⟩
  ·refine an I fun a I=>?_;obtain⟨W,l,B⟩:=bd B;refine wg I rfl rfl rfl h (bT I Co rfl rfl (ez _ _ I.dlt c.b _ l) fun _ w C a O U=>?_);obtain rfl:=C;have I:=fA U;refine an I fun a I=>?_;rcases cd B with⟨r,B⟩|⟨r,B⟩
   ·refine an I fun a I=>?_;rcases cd B with⟨t,B⟩|⟨t,B⟩
    ·refine an I fun a I=>?_;rcases cd B with⟨u,B⟩|⟨u,B⟩
     ·refine an I fun a I=>?_;rcases cd B with⟨x,B⟩|⟨x,B⟩
      ·refine an I fun a I=>?_;rcases cd B with⟨z,B⟩|⟨z,B⟩
       ·refine an I fun a I=>?_;rcases cd B with⟨A,B⟩|⟨A,B⟩
        ·refine an I fun a I=>?_;rcases cd B with⟨D,B⟩|⟨D,B⟩
         ·refine an I fun a I=>?_;rcases cd B with⟨E,B⟩|⟨E,B⟩
          ·refine an I fun a I=>?_;rcases cd B with⟨i,B⟩|⟨i,B⟩
           ·exact fz
           refine an I fun a I=>?_;obtain⟨X,m,B⟩:=bd B;refine wg I rfl rfl rfl i (bT I zu rfl rfl (fg _ _ I.dlt c.b _ m) fun _ w C a O U=>?_);obtain rfl:=C;have I:=fA U;exact fz
          exact fz
         exact fz
        exact fz
       exact fz
      exact fz
     exact fz
    exact fz
   exact fz
  exact fz
 rintro a w ⟨f,I,B⟩;unfold cX at B;exact fz
def pr (b:LR):=some (decide ((b.length:Int)<=4000))
def eL (b:Int) (c:Bool):Option (Fl (Int) (Fl (Unit) Bool)):=cond c (some (.out (.out false))) (some (.go (IntKind.i64.wrap (b+1))))
def i8 (e:LR) (c:Int):=cond (decide (c<(e.length:Int))) ((bp e c).bind fun d=>(sg d).bind fun g=>cond (!(g)) (eL c true) (cond (decide ((0:Int)<c)) ((bp e (IntKind.i64.wrap (c-1))).bind fun f=>(mj f.b d.b).bind fun h=>eL c (decide ((0:Int)<=h))) (eL c false))) (some (.out (.go ())))
def gZ (b:LR):=(loop (fun s:Int=>i8 b s) 0).bind fun r=>Fl.el r (fun s=>pr b) (fun y=>some (y))
theorem ul (hLv:dC T L) (c:LR) (e:Value) (F:aQ aa T L e c) (y:Bool) (B:gZ c=some y):bm aO No 30 [e] L (fun v w'=>v = .bool y):=by
 refine en Tryz.func30 Tryz.ntmps30 hT fun a I=>?_;replace I:=(I.fact bK (dC.dn hLv)).fS (aQ.dn F);unfold gZ at B;refine an I fun a I=>?_;refine aK (J:=fun a w=>St L No T 35 [(0,e)] [] [aT aa e c,bK] a w/\pr c=some y) ?_ ?_
 ·refine an I fun a I=>?_;obtain⟨X,E,hMo1⟩:=bd B;refine bz _ (fun s a w=>∃ (d:Int),d=s/\St L No T 35 [(0,e),(5,e),(6,am (c.length:Int)),(7,am d)] [] [aT aa e c,bK] a w) E ⟨_,rfl,I.mt [] [0,1]⟩ ?_;rintro s a w D ⟨d,rfl,I⟩ B hf1;have B:i8 c d=some D:=B;unfold i8 at B;refine an I fun a I=>?_;refine ax ?_;rcases cd B with⟨r,B⟩|⟨r,B⟩
  ·refine an I fun a I=>?_;refine ax ?_;refine an I fun a I=>?_;obtain⟨h,j,B⟩:=bd B;refine wl rfl (bv (R:=aa) I rG pA rfl rfl 0 rfl j rfl fun G P K t a I=>?_);obtain⟨V,rfl,n⟩:=t;replace I:=I.fS n;refine kA I jB fun H N a w O I=>?_;refine go I fun a w I=>?_;refine aK (J:=fun a w=>∃ (f:Bool),St L No T 35 [(0,e),(5,e),(6,am (c.length:Int)),(7,am d),(30,.bool f)] [] [aT aa e c,bK] a w/\eL d f=some D) ?_ ?_
   ·refine dr [] I fun w hQ I=>?_;refine gE [0] I fun a I=>?_;obtain⟨Q,l,B⟩:=bd B;refine ec 1 I UL (D9 _ _ I.dlt h _ I.g0 _ l) fun _ w C a O U=>?_;obtain rfl:=C;have I:=fA U;refine gE [2,3] I fun a I=>?_;rcases cd B with⟨u,B⟩|⟨u,B⟩
    ·refine gE [4,5,6,7,8,9,10,11,12,13,14,15,16,17,18] I fun a I=>?_;refine eD ?_;exact fin
    refine gE [4,5,6] I fun a I=>?_;rcases cd B with⟨g,B⟩|⟨g,B⟩
    ·refine gE [7,8,9] I fun a I=>?_;obtain⟨q,k,B⟩:=bd B;obtain⟨p,A,M,x,z,I⟩:=km (R:=aa) I rG pA 2 rfl k;obtain⟨W,rfl,o⟩:=x;replace I:=I.fS o;refine dg 10 I g (v:=pt p A) (z rfl rfl) fun a I=>?_;refine gE [11,12,13,14] I fun a I=>?_;obtain⟨S,m,B⟩:=bd B;refine dp (i:=15) rfl (by kernel_rfl) I rfl rfl rfl g (bT I KM rfl rfl (pN _ _ I.dlt I.g5 q.b h.b _ m) fun _ w C a O U=>⟨jx (O),?_⟩);obtain rfl:=C;have I:=fA U;refine gE [16,17,18] I fun a I=>?_;refine eD ?_;exact fin
    refine gE [7,8,9,10,11,12,13,14,15,16,17,18] I fun a I=>?_;refine eD ?_;exact fin
   rintro a w ⟨f,I,B⟩;unfold eL at B;exact fz
  exact fz
 rintro a w ⟨I,B⟩;unfold pr at B;exact fz
def k7 (b:Bool):=some (b)
def nj (b:ap):=cond (decide ((0:Int)<=b.r)) (cond (decide (b.r<=1073741824)) (cond (decide ((b.i.length:Int)<=64)) ((gZ b.s).bind fun c=>k7 c) (k7 false)) (k7 false)) (k7 false)
def nn (c:ap) (b:Int):Option (Fl (Int) (Fl (Unit) Bool)):=cond (decide (b<(c.s.length:Int))) ((bp c.s b).bind fun d=>cond (decide (c.r<d.u)) (some (.out (.out false))) (some (.go (IntKind.i64.wrap (b+1))))) (some (.out (.go ())))
def nk (b:ap):=(loop (fun s:Int=>nn b s) 0).bind fun r=>Fl.el r (fun s=>nj b) (fun y=>some (y))
def df (b:Int) (c:Bool):Option (Fl (Int) (Fl (Unit) Bool)):=cond c (some (.out (.out false))) (some (.go (IntKind.i64.wrap (b+1))))
def np (e:ap) (c:Int):=cond (decide (c<(e.i.length:Int))) ((bp e.i c).bind fun d=>(cP d.b).bind fun g=>cond (!(g)) (df c true) ((cO d.b).bind fun h=>cond (!(h)) (df c true) (cond (decide ((0:Int)<c)) ((bp e.i (IntKind.i64.wrap (c-1))).bind fun f=>(mj f.b d.b).bind fun j=>cond (decide ((0:Int)<=j)) (df c true) (cond (decide ((1073741824:Int)<(d.t.size:Int))) (df c true) (cond (decide (d.l<0)) (df c true) (df c (decide (e.r<d.l)))))) (cond (decide ((1073741824:Int)<(d.t.size:Int))) (df c true) (cond (decide (d.l<0)) (df c true) (df c (decide (e.r<d.l)))))))) (some (.out (.go ())))
def pS (b:ap):=(loop (fun s:Int=>np b s) 0).bind fun r=>Fl.el r (fun s=>nk b) (fun y=>some (y))
theorem yp (hLv:dC T L) (c:ap) (e g:Value) (a3:aQ ad T L e c.i) (a4:aQ aa T L g c.s) (y:Bool) (B:pS c=some y):bm aO No 13 [.agg (bA c e g).toArray] L (fun v w'=>v = .bool y):=by
 refine en Tryz.func13 Tryz.ntmps13 hT fun a I=>?_;replace I:=((I.fact bK (dC.dn hLv)).fS (aQ.dn a3)).fS (aQ.dn a4);unfold pS at B;refine kB I fun d b0 a w O I=>?_;refine an I fun a I=>?_;refine aK (J:=fun a w=>St L No T 93 [(1,pt d 0)] [.box d (bA c e g) 37] [aT ad e c.i,aT aa g c.s,bK] a w/\nk c=some y) ?_ ?_
 ·refine an I fun a I=>?_;obtain⟨r1,p,hMo1⟩:=bd B;refine bz _ (fun s a w=>∃ (f:Int),f=s/\St L No T 93 [(1,pt d 0),(8,e),(9,am (c.i.length:Int)),(10,am f)] [.box d (bA c e g) 37] [aT ad e c.i,aT aa g c.s,bK] a w) p ⟨_,rfl,I.mt [0] [1,0,2]⟩ ?_;rintro s a w q ⟨f,rfl,I⟩ B hf1;have B:np c f=some q:=B;unfold np at B;refine an I fun a I=>?_;refine ax ?_;rcases cd B with⟨H,B⟩|⟨H,B⟩
  ·refine an I fun a I=>?_;refine ax ?_;refine an I fun a I=>?_;obtain⟨j,t,B⟩:=bd B;refine wl rfl (bv (R:=ad) I El Em rfl rfl 0 rfl t rfl fun a5 b3 ag K a I=>?_);obtain rfl:=K;refine kA I A8 fun a9 b1 a w O I=>?_;refine go I fun a w I=>?_;refine aK (J:=fun a w=>∃ (l:Bool),St L No T 93 [(1,pt d 0),(8,e),(9,am (c.i.length:Int)),(10,am f),(59,.bool l)] [.box d (bA c e g) 37] [aT ad e c.i,aT aa g c.s,bK] a w/\df f l=some q) ?_ ?_
   ·refine dr [] I fun w hQ I=>?_;refine gE [0,1] I fun a I=>?_;obtain⟨b7,z,B⟩:=bd B;refine ec 2 I IU (kd _ _ I.dlt j.b _ z) fun _ w C a O U=>?_;obtain rfl:=C;have I:=fA U;refine gE [3,4] I fun a I=>?_;rcases cd B with⟨n,B⟩|⟨n,B⟩
    ·refine gE [5,6,7,8,9,10,11,12,13,14,15,16,17,18,19,20,21,22,23,24,25,26,27,28,29,30,31,32,33,34,35,36,37,38,39,40,41,42,43,44] I fun a I=>?_;refine eD ?_;exact fin
    refine gE [5,6] I fun a I=>?_;obtain⟨b8,A,B⟩:=bd B;refine dp (i:=7) rfl (by kernel_rfl) I rfl rfl rfl n (bT I Co rfl rfl (ez _ _ I.dlt j.b _ A) fun _ w C a O U=>⟨jx (O),?_⟩);obtain rfl:=C;have I:=fA U;refine gE [8,9,10] I fun a I=>?_;rcases cd B with⟨M,B⟩|⟨M,B⟩
    ·refine gE [11,12,13,14,15,16,17,18,19,20,21,22,23,24,25,26,27,28,29,30,31,32,33,34,35,36,37,38,39,40,41,42,43,44] I fun a I=>?_;refine eD ?_;exact fin
    refine gE [11,12,13] I fun a I=>?_;rcases cd B with⟨m,B⟩|⟨m,B⟩
    ·refine gE [14,15,16,17] I fun a I=>?_;obtain⟨G,u,B⟩:=bd B;obtain⟨F,a2,ak,N,P,I⟩:=km (R:=ad) I El Em 1 rfl u;obtain rfl:=N;refine dg 18 I m (v:=pt F a2) (P rfl rfl) fun a I=>?_;refine gE [19,20,21,22] I fun a I=>?_;obtain⟨b9,D,B⟩:=bd B;refine dp (i:=23) rfl (by kernel_rfl) I rfl rfl rfl m (bT I KM rfl rfl (pN _ _ I.dlt I.g4 G.b j.b _ D) fun _ w C a O U=>⟨jx (O),?_⟩);obtain rfl:=C;have I:=fA U;refine gE [24,25,26,27] I fun a I=>?_;rcases cd B with⟨Q,B⟩|⟨Q,B⟩
     ·refine gE [28,29,30,31,32,33,34,35,36,37,38,39,40,41,42,43,44] I fun a I=>?_;refine eD ?_;exact fin
     refine gE [28,29,30,31,32,33] I fun a I=>?_;rcases cd B with⟨S,B⟩|⟨S,B⟩
     ·refine gE [34,35,36,37,38,39,40,41,42,43,44] I fun a I=>?_;refine eD ?_;exact fin
     refine gE [34,35,36,37,38] I fun a I=>?_;rcases cd B with⟨V,B⟩|⟨V,B⟩
     ·refine gE [39,40,41,42,43,44] I fun a I=>?_;refine eD ?_;exact fin
     refine gE [39,40,41,42,43,44] I fun a I=>?_;refine eD ?_;exact fin
    refine gE [14,15,16,17,18,19,20,21,22,23,24,25,26,27,28,29,30,31,32,33] I fun a I=>?_;rcases cd B with⟨W,B⟩|⟨W,B⟩
    ·refine gE [34,35,36,37,38,39,40,41,42,43,44] I fun a I=>?_;refine eD ?_;exact fin
    refine gE [34,35,36,37,38] I fun a I=>?_;rcases cd B with⟨X,B⟩|⟨X,B⟩
    ·refine gE [39,40,41,42,43,44] I fun a I=>?_;refine eD ?_;exact fin
    refine gE [39,40,41,42,43,44] I fun a I=>?_;refine eD ?_;exact fin
   rintro a w ⟨l,I,B⟩;unfold df at B;exact fz
  exact fz
 rintro a w ⟨I,B⟩;unfold nk at B;refine aK (J:=fun a w=>St L No T 93 [(1,pt d 0)] [.box d (bA c e g) 37] [aT ad e c.i,aT aa g c.s,bK] a w/\nj c=some y) ?_ ?_
 ·refine an I fun a I=>?_;obtain⟨r1,p,hMo1⟩:=bd B;refine bz _ (fun s a w=>∃ (h:Int),h=s/\St L No T 93 [(1,pt d 0),(62,g),(63,am (c.s.length:Int)),(64,am h)] [.box d (bA c e g) 37] [aT aa g c.s,aT ad e c.i,bK] a w) p ⟨_,rfl,I.mt [0] [1,0,2]⟩ ?_;rintro s a w q ⟨h,rfl,I⟩ B hf1;have B:nn c h=some q:=B;unfold nn at B;refine an I fun a I=>?_;refine ax ?_;rcases cd B with⟨Y,B⟩|⟨Y,B⟩
  ·refine an I fun a I=>?_;refine ax ?_;refine an I fun a I=>?_;obtain⟨av,r,B⟩:=bd B;refine wl rfl (bv (R:=aa) I rG pA rfl rfl 0 rfl r rfl fun ab b4 ao Z a I=>?_);obtain⟨bb,rfl,E⟩:=Z;replace I:=I.fS E;refine kA I jB fun af b2 a w O I=>?_;exact fz
  exact fz
 rintro a w ⟨I,B⟩;unfold nj at B;refine aK (J:=fun a w=>∃ (k:Bool),St L No T 93 [(2,.bool k)] [] [bK] a w/\k7 k=some y) ?_ ?_
 ·refine an I fun a I=>?_;rcases cd B with⟨a0,B⟩|⟨a0,B⟩
  ·refine an I fun a I=>?_;rcases cd B with⟨a1,B⟩|⟨a1,B⟩
   ·refine an I fun a I=>?_;rcases cd B with⟨o,B⟩|⟨o,B⟩
    ·refine an I fun a I=>?_;obtain⟨b6,x,B⟩:=bd B;refine wg I rfl rfl rfl o (bT I SW rfl rfl (ul _ _ I.dlt I.g2 c.s _ I.g1 _ x) fun _ w C a O U=>?_);obtain rfl:=C;have I:=fA U;exact fz
    exact fz
   exact fz
  exact fz
 rintro a w ⟨k,I,B⟩;unfold k7 at B;exact fz
def uI (b:ae):=some ((be.mk b cu 0))
def iC (e:ap) (f:ae) (d:Int):Option (Fl (Int) (Fl (Unit) be)):=cond (decide (d<(e.i.length:Int))) ((bp e.i d).bind fun c=>cond (c.b.k==f.k&&c.b.x.toList==f.x.toList) (some (.out (.out c))) (some (.go (IntKind.i64.wrap (d+1))))) (some (.out (.go ())))
def rx (c:ap) (b:ae):=(loop (fun s:Int=>iC c b s) 0).bind fun r=>Fl.el r (fun s=>uI b) (fun y=>some (y))
theorem zS (d:ap) (c:ae) (l t:Value) (q:aQ ad T L l d.i) (r:aQ aa T L t d.s) (y:be) (B:rx d c=some y):bm aO No 128 [.agg (bA d l t).toArray,.agg (bn c).toArray] L (fun v w'=>v = .agg (uA y).toArray):=by
 refine en Tryz.func128 Tryz.ntmps128 hT fun a I=>?_;replace I:=(I.fS (aQ.dn q)).fS (aQ.dn r);unfold rx at B;refine kB I fun u F a w O I=>?_;refine kb I fun e G a w O I=>?_;refine ka I A8 fun f H a w O I=>?_;refine an I fun a I=>?_;refine aK (J:=fun a w=>St L No T 22 [(3,pt e 0),(4,pt f 0)] [.box e (bn c) 27,.box f [am 0,bc cu,bc cu,am 0] 88] [] a w/\uI c=some y) ?_ ?_
 ·refine an I fun a I=>?_;obtain⟨N,p,hMo1⟩:=bd B;refine bz _ (fun s a w=>∃ (g:Int),g=s/\St L No T 22 [(3,pt e 0),(4,pt f 0),(8,l),(9,am (d.i.length:Int)),(10,am g)] [.box e (bn c) 27,.box f [am 0,bc cu,bc cu,am 0] 88] [aT ad l d.i] a w) p ⟨_,rfl,I.mt [1,0] [1]⟩ ?_;rintro s a w E ⟨g,rfl,I⟩ B hf1;have B:iC d c g=some E:=B;unfold iC at B;refine an I fun a I=>?_;refine ax ?_;rcases cd B with⟨m,B⟩|⟨m,B⟩
  ·refine an I fun a I=>?_;refine ax ?_;refine an I fun a I=>?_;obtain⟨h,j,B⟩:=bd B;refine wl rfl (bv (R:=ad) I El Em rfl rfl 0 rfl j rfl fun z M D n a I=>?_);obtain rfl:=n;refine kA I A8 fun A K a w O I=>?_;refine go I fun a w I=>?_;refine wl rfl (ky (v:=.bool (h.b.k==c.k&&h.b.x.toList==c.x.toList)) I (Hm I rfl rfl) rfl rfl fun a I=>?_);refine an I fun a I=>?_;rcases cd B with⟨o,B⟩|⟨o,B⟩
   ·refine go I fun a w I=>?_;cases B
    have hr:=hf1 _ rfl;subst hr;replace hMo1:=jX hMo1;have B:=hMo1;cases B
    refine aG I rfl (rC 2 I) ?_;exact rfl
   exact fz
  exact fz
 rintro a w ⟨I,B⟩;unfold uI at B;refine an I fun a I=>?_;refine qy I (bE (ps:=[(0,.tmp 20)]) I OW A8 rfl (us:=[(bn c)]) ⟨rfl,trivial⟩ (ws:=[am c.k,bc c.x,bc cu,am 0]) rfl) fun a I=>?_;refine go I fun a w I=>?_;cases B
 refine aG I rfl (rC 1 I) ?_;exact rfl
def pR (c:ap) (d:ae):=(rx c d).bind fun b=>some (b.t)
theorem un (b:ap) (c:ae) (g h:Value) (e:aQ ad T L g b.i) (f:aQ aa T L h b.s) (y:ByteArray) (B:pR b c=some y):bm aO No 74 [.agg (bA b g h).toArray,.agg (bn c).toArray] L (fun v w'=>v=bc y):=by
 refine en Tryz.func74 Tryz.ntmps74 hT fun a I=>?_;replace I:=(I.fS (aQ.dn e)).fS (aQ.dn f);unfold pR at B;refine kB I fun j l a w O I=>?_;refine kb I fun k m a w O I=>?_;refine an I fun a I=>?_;obtain⟨n,d,B⟩:=bd B;refine kE I PJ (zS _ _ I.dlt b c _ _ I.g1 I.g0 _ d) fun w a I=>?_;refine qy I (Dv I rfl Tryz.underlying88 rfl rfl Pd rfl rfl (fun _=>rfl)) fun a I=>?_;exact fz
def k6 (b c:ap) (e:Bool) (d:LI):Option (ap×Int):=cond (!(e)) (some ((b,0))) (cond (decide ((64:Int)<(d.length:Int))) (some ((b,45))) (cond (decide ((1073741824:Int)<(IntKind.i64.wrap (c.r+1)))) (some ((b,3))) (some (((ap.mk (IntKind.i64.wrap (c.r+1)) d c.s),0)))))
def jc (c:Int) (b:Bool) (d:LI):Option (Fl (Bool×Int×LI) (Bool×LI)):=some (.go (b,IntKind.i64.wrap (c+1),d))
def fj (b:Int) (c:LI):=jc b true c
def fk (f:ap) (e:Int) (c:ci) (d:LI) (g:Bool):=cond (!(g)) (gd (cm (d.length+([(be.mk c.b c.t (IntKind.i64.wrap (f.r+1)))]).length)) <| fj e (d++([(be.mk c.b c.t (IntKind.i64.wrap (f.r+1)))]))) (fj e d)
def gr (b:Int) (c:LI) (d:Bool):Option (Fl (LI×Bool×Int) (LI×Bool)):=some (.go (c,d,IntKind.i64.wrap (b+1)))
def gt (d:Int) (c:be) (f:Int) (b:LI) (e:Bool):=cond (f != 0) (gd (cm (b.length+([c]).length)) <| gr d (b++([c])) e) (gr d b e)
def gv (g:ap) (c:ci) (d:LI) (j:Bool) (f:Int) (e:be) (h:Int) (i:Bool):=cond i (gd (cm (d.length+([(be.mk c.b c.t (IntKind.i64.wrap (g.r+1)))]).length)) <| gt f e h (d++([(be.mk c.b c.t (IntKind.i64.wrap (g.r+1)))])) true) (gt f e h d j)
def gw (j:ap) (i:LI) (e:ci) (g:LI) (d:Bool) (c:Int):=cond (decide (c<(i.length:Int))) ((bp i c).bind fun f=>(mj f.b e.b).bind fun h=>cond (decide ((0:Int)<=h)) (gv j e g d c f h (!(d))) (gv j e g d c f h false)) (some (.out (g,d)))
def ni (i g:ap) (f:Bool) (d:Int) (e:LI) (c:ci) (h:Bool):=cond (!(h)) (jc d f e) ((pR i c.b).bind fun j=>cond (j.toList==c.t.toList) (jc d f e) ((loop (fun s:LI×Bool×Int=>gw g e c s.1 s.2.1 s.2.2) (([]:List be),false,0)).bind fun r=>fk g d c r.1 r.2))
def l5 (d:ci) (f:LC) (g:Bool) (c:Int):Option (Fl (Bool×Int) (Bool)):=cond (decide (c<(f.length:Int))) ((bp f c).bind fun e=>cond g (some (.go (!(e.b.k==d.b.k&&e.b.x.toList==d.b.x.toList),IntKind.i64.wrap (c+1)))) (some (.go (false,IntKind.i64.wrap (c+1))))) (some (.out g))
def fF (c:LC) (h i:ap) (d:Bool) (b:Int) (f:LI):=cond (decide (b<(c.length:Int))) ((bp c b).bind fun e=>(sH c (IntKind.i64.wrap (b+1)) c.length).bind fun g=>(loop (fun s:Bool×Int=>l5 e g s.1 s.2) (true,0)).bind fun r=>ni h i d b f e r) (some (.out (d,f)))
def hO (d:LC) (b:ap):=(lF b).bind fun c=>(loop (fun s:Bool×Int×LI=>fF d b c s.1 s.2.1 s.2.2) (false,0,c.i)).bind fun r=>k6 b c r.1 r.2
def hS (c:LC) (e:ap) (b:Int):Option (Fl (Int) (Fl (Unit) (ap×Int))):=cond (decide (b<(c.length:Int))) ((bp c b).bind fun d=>cond (decide ((1073741824:Int)<(d.t.size:Int))) (some (.out (.out (e,3)))) (some (.go (IntKind.i64.wrap (b+1))))) (some (.out (.go ())))
def hR (c:LC) (b:ap):=(loop (fun s:Int=>hS c b s) 0).bind fun r=>Fl.el r (fun s=>hO c b) (fun y=>some (y))
def hU (f:LC) (e:ap) (c:Int):Option (Fl (Int) (Fl (Unit) (ap×Int))):=cond (decide (c<(f.length:Int))) ((bp f c).bind fun d=>(cP d.b).bind fun g=>cond (!(g)) (some (.out (.out (e,40)))) ((cO d.b).bind fun h=>cond (!(h)) (some (.out (.out (e,40)))) (some (.go (IntKind.i64.wrap (c+1)))))) (some (.out (.go ())))
def iB (e:ap) (c:LC):=(lF e).bind fun b=>(pS b).bind fun d=>cond (!(d)) (some ((b,42))) (cond (decide ((32:Int)<(c.length:Int))) (some ((b,3))) ((loop (fun s:Int=>hU c b s) 0).bind fun r=>Fl.el r (fun s=>hR c b) (fun y=>some (y))))
theorem uH (hLv:dC T L) (a9:ap) (m:LC) (v1 v2 p:Value) (fM:aQ ad T L v1 a9.i) (g3:aQ aa T L v2 a9.s) (g4:aQ bw T L p m) (y:ap×Int) (B:iB a9 m=some y):bm aO No 26 [.agg (bA a9 v1 v2).toArray,p] L (fun v w'=>∃ (v4:Value) (zv:bG) (v6:Value) (y5:bG),v = .tuple #[.agg (bA y.1 v4 v6).toArray,am y.2]/\jy ad T L w' [bX v4 zv,bo v6 y5] 88 v4 zv y.1.i/\jy aa T L w' [bX v4 zv,bo v6 y5] 78 v6 y5 y.1.s/\(∀ k,v4.ownBlock=some k->v6.ownBlock≠some k)):=by
 refine en Tryz.func26 Tryz.ntmps26 hT fun a I=>?_;replace I:=(((I.fact bK (dC.dn hLv)).fS (aQ.dn fM)).fS (aQ.dn g3)).fS (aQ.dn g4);unfold iB at B;refine kB I fun n hh a w O I=>?_;refine ka I vx fun o hi a w O I=>?_;refine an I fun a I=>?_;obtain⟨c,ds,B⟩:=bd B;refine kc I IV (lG _ _ I.dlt a9 _ _ I.g2 I.g1 _ ds) fun _ w C a O U=>?_;obtain⟨e,j,f,l,he,cf,ch,cb⟩:=C;obtain rfl:=he.symm;have I:=IF U cf ch cb;refine go I fun a w I=>?_;refine ax ?_;refine an I fun a I=>?_;have hL:=I;replace hL:=hL.zf (R:=ad) 0 rfl 1 rfl;replace hL:=hL.zf (R:=aa) 0 rfl 1 rfl;obtain⟨hA,e6,B⟩:=bd B;refine kF I Sg (yp _ _ hL.dlt hL.g7 c _ _ hL.g1 hL.g0 _ e6) fun w a I=>?_;rcases cd B with⟨e7,B⟩|⟨e7,B⟩
 ·refine go I fun a w I=>?_;cases B
  refine aG I Tryz.results26 (eA I rfl 2 rfl tU rfl (fun h=>by cases h) (aF I rfl aH)) ?_;exact⟨e,j,f,l,rfl,I.zo ⟨.inr (az (i:=0) rfl),⟨.inr (az (i:=1) rfl),trivial⟩⟩ 0 rfl 1 rfl,I.zo ⟨.inr (az (i:=0) rfl),⟨.inr (az (i:=1) rfl),trivial⟩⟩ 1 rfl 0 rfl,(I.zp 0 rfl 1 rfl (by decide))⟩
 refine an I fun a I=>?_;rcases cd B with⟨e8,B⟩|⟨e8,B⟩
 ·refine go I fun a w I=>?_;cases B
  refine aG I Tryz.results26 (eA I rfl 2 rfl tU rfl (fun h=>by cases h) (aF I rfl aH)) ?_;exact⟨e,j,f,l,rfl,I.zo ⟨.inr (az (i:=0) rfl),⟨.inr (az (i:=1) rfl),trivial⟩⟩ 0 rfl 1 rfl,I.zo ⟨.inr (az (i:=0) rfl),⟨.inr (az (i:=1) rfl),trivial⟩⟩ 1 rfl 0 rfl,(I.zp 0 rfl 1 rfl (by decide))⟩
 refine an I fun a I=>?_;refine aK (J:=fun a w=>St L No T 172 [(1,p),(2,pt n 0),(4,pt o 0)] [bX e j,bo f l,.box n (bA c e f) 37,.box o [am 0,.slice none 0 0,.slice none 0 0] 37] [aT bw p m,au ad j c.i,au aa l c.s,bK] a w/\hR m c=some y) ?_ ?_
 ·refine an I fun a I=>?_;obtain⟨r1,ab,hMo1⟩:=bd B;refine bz _ (fun s a w=>∃ (a0:Int),a0=s/\St L No T 172 [(1,p),(2,pt n 0),(4,pt o 0),(34,p),(35,am (m.length:Int)),(36,am a0)] [bX e j,bo f l,.box n (bA c e f) 37,.box o [am 0,.slice none 0 0,.slice none 0 0] 37] [aT bw p m,au ad j c.i,au aa l c.s,bK] a w) ab ⟨_,rfl,I.mt [0,1,3,2] [2,1,0,5]⟩ ?_;rintro s a w V ⟨a0,rfl,I⟩ B hf1;have B:hU m c a0=some V:=B;unfold hU at B;refine an I fun a I=>?_;refine ax ?_;rcases cd B with⟨ea,B⟩|⟨ea,B⟩
  ·refine an I fun a I=>?_;refine ax ?_;refine an I fun a I=>?_;obtain⟨c4,dk,B⟩:=bd B;refine wl rfl (bv (R:=bw) I Lo Lt rfl rfl 0 rfl dk rfl fun gb hp h5 eb a I=>?_);obtain rfl:=eb;refine kA I Gv fun gi hj a w O I=>?_;refine go I fun a w I=>?_;refine ip ?_;refine an I fun a I=>?_;obtain⟨hy,e4,B⟩:=bd B;refine kF I IU (kd _ _ I.dlt c4.b _ e4) fun w a I=>?_;rcases cd B with⟨c5,B⟩|⟨c5,B⟩
   ·refine go I fun a w I=>?_;cases B
    have hr:=hf1 _ rfl;subst hr;replace hMo1:=jX hMo1;have B:=hMo1;cases B
    refine aG I Tryz.results26 (eA I rfl 4 rfl tU rfl (fun h=>by cases h) (aF I rfl aH)) ?_;exact⟨e,j,f,l,rfl,I.zo ⟨.inr (az (i:=1) rfl),⟨.inr (az (i:=2) rfl),trivial⟩⟩ 1 rfl 2 rfl,I.zo ⟨.inr (az (i:=1) rfl),⟨.inr (az (i:=2) rfl),trivial⟩⟩ 2 rfl 3 rfl,(I.zp 1 rfl 2 rfl (by decide))⟩
   refine an I fun a I=>?_;obtain⟨hz,e5,B⟩:=bd B;refine wg I rfl rfl rfl c5 (bT I Co rfl rfl (ez _ _ I.dlt c4.b _ e5) fun _ w C a O U=>?_);obtain rfl:=C;have I:=fA U;refine an I fun a I=>?_;rcases cd B with⟨ed,B⟩|⟨ed,B⟩
   ·refine go I fun a w I=>?_;cases B
    have hr:=hf1 _ rfl;subst hr;replace hMo1:=jX hMo1;have B:=hMo1;cases B
    refine aG I Tryz.results26 (eA I rfl 4 rfl tU rfl (fun h=>by cases h) (aF I rfl aH)) ?_;exact⟨e,j,f,l,rfl,I.zo ⟨.inr (az (i:=1) rfl),⟨.inr (az (i:=2) rfl),trivial⟩⟩ 1 rfl 2 rfl,I.zo ⟨.inr (az (i:=1) rfl),⟨.inr (az (i:=2) rfl),trivial⟩⟩ 2 rfl 3 rfl,(I.zp 1 rfl 2 rfl (by decide))⟩
   exact fz
  exact fz
 rintro a w ⟨I,B⟩;unfold hR at B;refine aK (J:=fun a w=>St L No T 172 [(1,p),(2,pt n 0),(4,pt o 0)] [bX e j,bo f l,.box n (bA c e f) 37,.box o [am 0,.slice none 0 0,.slice none 0 0] 37] [aT bw p m,au ad j c.i,au aa l c.s,bK] a w/\hO m c=some y) ?_ ?_
 ·refine an I fun a I=>?_;obtain⟨r1,ab,hMo1⟩:=bd B;refine bz _ (fun s a w=>∃ (Z:Int),Z=s/\St L No T 172 [(1,p),(2,pt n 0),(4,pt o 0),(52,p),(53,am (m.length:Int)),(54,am Z)] [bX e j,bo f l,.box n (bA c e f) 37,.box o [am 0,.slice none 0 0,.slice none 0 0] 37] [aT bw p m,au ad j c.i,au aa l c.s,bK] a w) ab ⟨_,rfl,I.mt [0,1,2,3] [0,1,2,3]⟩ ?_;rintro s a w V ⟨Z,rfl,I⟩ B hf1;have B:hS m c Z=some V:=B;unfold hS at B;refine an I fun a I=>?_;refine ax ?_;rcases cd B with⟨eg,B⟩|⟨eg,B⟩
  ·refine an I fun a I=>?_;refine ax ?_;refine an I fun a I=>?_;obtain⟨hg,dc,B⟩:=bd B;refine wl rfl (bv (R:=bw) I Lo Lt rfl rfl 0 rfl dc rfl fun gs hq h6 ei a I=>?_);obtain rfl:=ei;refine kA I Gv fun gu hk a w O I=>?_;refine go I fun a w I=>?_;rcases cd B with⟨ek,B⟩|⟨ek,B⟩
   ·refine go I fun a w I=>?_;cases B
    have hr:=hf1 _ rfl;subst hr;replace hMo1:=jX hMo1;have B:=hMo1;cases B
    refine aG I Tryz.results26 (eA I rfl 4 rfl tU rfl (fun h=>by cases h) (aF I rfl aH)) ?_;exact⟨e,j,f,l,rfl,I.zo ⟨.inr (az (i:=1) rfl),⟨.inr (az (i:=2) rfl),trivial⟩⟩ 1 rfl 2 rfl,I.zo ⟨.inr (az (i:=1) rfl),⟨.inr (az (i:=2) rfl),trivial⟩⟩ 2 rfl 3 rfl,(I.zp 1 rfl 2 rfl (by decide))⟩
   exact fz
  exact fz
 rintro a w ⟨I,B⟩;unfold hO at B;refine an I fun a I=>?_;have hZ:=I;replace I:=(I.zf (R:=ad) 0 rfl 1 rfl).zf (R:=aa) 0 rfl 3 rfl;have hY:St L No T 172 [] ([bX e j,bo f l]++[.box n (bA c e f) 37,.box o [am 0,.slice none 0 0,.slice none 0 0] 37]) [aT bw p m,au ad j c.i,au aa l c.s,bK] _ _:=hZ.meet [0,1,2,3] (by decide) trivial ⟨rfl,rfl,rfl,rfl,trivial⟩ ⟨⟨0,rfl⟩,⟨1,rfl⟩,⟨2,rfl⟩,⟨3,rfl⟩,trivial⟩;replace I:=I.snap hY;obtain⟨g,e0,B⟩:=bd B;refine kc I IV (lG _ _ I.dlt c _ _ I.g2 I.g1 _ e0) fun _ w C a O U=>?_;obtain⟨hB,h7,u,q,he,ck,cs,cb⟩:=C;obtain rfl:=he.symm;have I:=IF U ck cs cb;refine ka I vx fun A hl a w O I=>?_;refine go I fun a w I=>?_;refine aK (J:=fun a w=>∃ (af:Bool) (b7:LI) (a5:Value) (X:LV),St L No T 172 [(2,pt n 0),(4,pt o 0),(10,pt A 0),(11,.bool af)] [.box n (bA c e f) 37,.box o [am 0,.slice none 0 0,.slice none 0 0] 37,bX a5 X,bo u q,.box A [am (IntKind.i64.wrap (g.r+1)),a5,u] 37] [aT ad e c.i,aT aa f c.s,au ad X b7,au aa q g.s,bK,rW L No [bX e j,bo f l] [aT bw p m,au ad j c.i,au aa l c.s,bK]] a w/\k6 c g af b7=some y) ?_ ?_
 ·refine an I fun a I=>?_;obtain⟨r1,ab,hMo1⟩:=bd B;refine bz _ (fun s a w=>∃ (M:Bool) (F:Int) (E:LI) (z:Value) (D:LV),(M,F,E)=s/\St L No T 172 [(1,p),(2,pt n 0),(4,pt o 0),(10,pt A 0),(11,.bool M),(70,p),(71,am (m.length:Int)),(72,am F)] [.box n (bA c e f) 37,.box o [am 0,.slice none 0 0,.slice none 0 0] 37,bX z D,bo u q,.box A [am (IntKind.i64.wrap (g.r+1)),z,u] 37] [aT bw p m,aT ad e c.i,aT aa f c.s,au ad D E,au aa q g.s,bK,rW L No [bX e j,bo f l] [aT bw p m,au ad j c.i,au aa l c.s,bK]] a w) ab ⟨_,_,_,_,_,rfl,I.mt [3,4,1,2,0] [5,4,3,1,0,8,2]⟩ ?_;rintro s a w V ⟨M,F,E,z,D,rfl,I⟩ B hf1;have B:fF m c g M F E=some V:=B;unfold fF at B;refine an I fun a I=>?_;refine ax ?_;rcases cd B with⟨el,B⟩|⟨el,B⟩
  ·refine an I fun a I=>?_;refine aK (J:=fun a w=>∃ (ag:Bool) (b8:LI) (bi:Value) (ak:LV),St L No T 172 [(1,p),(2,pt n 0),(4,pt o 0),(10,pt A 0),(11,.bool ag),(70,p),(71,am (m.length:Int)),(72,am F)] [.box n (bA c e f) 37,.box o [am 0,.slice none 0 0,.slice none 0 0] 37,bX bi ak,bo u q,.box A [am (IntKind.i64.wrap (g.r+1)),bi,u] 37] [aT bw p m,aT ad e c.i,aT aa f c.s,au ad ak b8,au aa q g.s,bK,rW L No [bX e j,bo f l] [aT bw p m,au ad j c.i,au aa l c.s,bK]] a w/\jc F ag b8=some V) ?_ ?_
   ·refine an I fun a I=>?_;obtain⟨d,d3,B⟩:=bd B;refine wl rfl (bv (R:=bw) I Lo Lt rfl rfl 0 rfl d3 rfl fun gx hs h8 eq a I=>?_);obtain rfl:=eq;refine kA I Gv fun G hm a w O I=>?_;refine go I fun a w I=>?_;refine aK (J:=fun a w=>∃ (b5:Bool),St L No T 172 [(1,p),(2,pt n 0),(4,pt o 0),(10,pt A 0),(11,.bool M),(13,pt G 0),(14,.bool b5),(70,p),(71,am (m.length:Int)),(72,am F)] [.box n (bA c e f) 37,.box o [am 0,.slice none 0 0,.slice none 0 0] 37,bX z D,bo u q,.box A [am (IntKind.i64.wrap (g.r+1)),z,u] 37,.box G (qa d) 81] [aT bw p m,aT ad e c.i,aT aa f c.s,au ad D E,au aa q g.s,bK,rW L No [bX e j,bo f l] [aT bw p m,au ad j c.i,au aa l c.s,bK]] a w/\ni c g M F E d b5=some V) ?_ ?_
    ·refine an I fun a I=>?_;obtain⟨b6,dl,B⟩:=bd B;refine wl rfl (Tj (R:=bw) (k2:=.i64) I Lo Lt rfl (.inl ⟨_,rfl,rfl⟩) (.inr ⟨rfl,rfl⟩) 1 rfl dl rfl fun d0 a I=>?_);refine an I fun a I=>?_;obtain⟨r2,cv,hMo2⟩:=bd B;refine bz _ (fun s a w=>∃ (a3:Bool) (Y:Int),(a3,Y)=s/\St L No T 172 [(1,p),(2,pt n 0),(4,pt o 0),(10,pt A 0),(11,.bool M),(13,pt G 0),(14,.bool a3),(70,p),(71,am (m.length:Int)),(72,am F),(80,d0),(81,am (b6.length:Int)),(82,am Y)] [.box n (bA c e f) 37,.box o [am 0,.slice none 0 0,.slice none 0 0] 37,bX z D,bo u q,.box A [am (IntKind.i64.wrap (g.r+1)),z,u] 37,.box G (qa d) 81] [aT bw p m,aT bw d0 b6,aT ad e c.i,aT aa f c.s,au ad D E,au aa q g.s,bK,rW L No [bX e j,bo f l] [aT bw p m,au ad j c.i,au aa l c.s,bK]] a w) cv ⟨_,_,rfl,I.mt [1,2,3,4,5,0] [2,0,3,4,5,6,7,8]⟩ ?_;rintro s a w f2 ⟨a3,Y,rfl,I⟩ B hf2;have B:l5 d b6 a3 Y=some f2:=B;unfold l5 at B;refine an I fun a I=>?_;refine ax ?_;rcases cd B with⟨er,B⟩|⟨er,B⟩
     ·refine an I fun a I=>?_;refine ax ?_;refine an I fun a I=>?_;obtain⟨c3,d6,B⟩:=bd B;refine wl rfl (bv (R:=bw) I Lo Lt rfl rfl 1 rfl d6 rfl fun gy ht h9 et a I=>?_);obtain rfl:=et;refine kA I Gv fun h0 hn a w O I=>?_;refine go I fun a w I=>?_;rcases cd B with⟨c9,B⟩|⟨c9,B⟩
      ·refine an I fun a I=>?_;refine wg I rfl rfl rfl c9 (ky (v:=.bool (!(c3.b.k==d.b.k&&c3.b.x.toList==d.b.x.toList))) I (Bi I rfl rfl) rfl rfl fun a I=>?_);exact fz
      exact fz
     exact fz
    rintro a w ⟨b5,I,B⟩;unfold ni at B;refine ax ?_;refine ax ?_;refine dr [] I fun w hQ I=>?_;refine gE [0,1,2] I fun a I=>?_;rcases cd B with⟨ca,B⟩|⟨ca,B⟩
    ·refine gE [3,4,5,6,7,8,9,10] I fun a I=>?_;refine eD ?_;exact fz
    refine gE [3,4,5,7,8] I fun a I=>?_;obtain⟨hx,e3,B⟩:=bd B;refine dp (i:=6) rfl (by kernel_rfl) I rfl rfl rfl ca (bT I Om rfl rfl (un _ _ I.dlt c d.b _ _ I.g1 I.g2 _ e3) fun _ w C a O U=>⟨jx (O),?_⟩);obtain rfl:=C;have I:=fA U;refine gE [9,10] I fun a I=>?_;refine eD ?_;refine an I fun a I=>?_;rcases cd B with⟨ex,B⟩|⟨ex,B⟩
    ·exact fz
    refine an I fun a I=>?_;refine aK (J:=fun a w=>∃ (a1:LI) (b9:Bool) (bl:Value) (ao:LV),St L No T 172 [(1,p),(2,pt n 0),(4,pt o 0),(10,pt A 0),(11,.bool true),(13,pt G 0),(17,bl),(18,.bool b9),(70,p),(71,am (m.length:Int)),(72,am F)] [bX bl ao,.box n (bA c e f) 37,.box o [am 0,.slice none 0 0,.slice none 0 0] 37,bX z D,bo u q,.box A [am (IntKind.i64.wrap (g.r+1)),z,u] 37,.box G (qa d) 81] [aT bw p m,au ad ao a1,aT ad e c.i,aT aa f c.s,au ad D E,au aa q g.s,bK,rW L No [bX e j,bo f l] [aT bw p m,au ad j c.i,au aa l c.s,bK]] a w/\fk g F d a1 b9=some V) ?_ ?_
    ·refine an I fun a I=>?_;replace I:=I.zn ad 88 (by decide);obtain⟨r2,cv,hMo2⟩:=bd B;refine bz _ (fun s a w=>∃ (N:LI) (P:Bool) (K:Int) (S:Value) (Q:LV),(N,P,K)=s/\St L No T 172 [(1,p),(2,pt n 0),(4,pt o 0),(10,pt A 0),(11,.bool true),(13,pt G 0),(17,S),(18,.bool P),(70,p),(71,am (m.length:Int)),(72,am F),(107,z),(108,am (E.length:Int)),(109,am K)] [bX S Q,bX z D,.box n (bA c e f) 37,.box o [am 0,.slice none 0 0,.slice none 0 0] 37,bo u q,.box A [am (IntKind.i64.wrap (g.r+1)),z,u] 37,.box G (qa d) 81] [aT bw p m,au ad Q N,au ad D E,aT ad e c.i,aT aa f c.s,au aa q g.s,bK,rW L No [bX e j,bo f l] [aT bw p m,au ad j c.i,au aa l c.s,bK]] a w) cv ⟨_,_,_,_,_,rfl,I.mt [0,3,1,2,4,5,6] [1,0,4,2,3,5,6,7]⟩ ?_;rintro s a w f2 ⟨N,P,K,S,Q,rfl,I⟩ B hf2;have B:gw g E d N P K=some f2:=B;unfold gw at B;refine an I fun a I=>?_;refine ax ?_;rcases cd B with⟨ey,B⟩|⟨ey,B⟩
     ·refine an I fun a I=>?_;refine aK (J:=fun a w=>∃ (b4:LI) (bb:Bool) (bs:Value) (av:LV),St L No T 172 [(1,p),(2,pt n 0),(4,pt o 0),(10,pt A 0),(11,.bool true),(13,pt G 0),(17,bs),(18,.bool bb),(70,p),(71,am (m.length:Int)),(72,am F),(107,z),(108,am (E.length:Int)),(109,am K)] [bX bs av,bX z D,.box n (bA c e f) 37,.box o [am 0,.slice none 0 0,.slice none 0 0] 37,bo u q,.box A [am (IntKind.i64.wrap (g.r+1)),z,u] 37,.box G (qa d) 81] [aT bw p m,au ad av b4,au ad D E,aT ad e c.i,aT aa f c.s,au aa q g.s,bK,rW L No [bX e j,bo f l] [aT bw p m,au ad j c.i,au aa l c.s,bK]] a w/\gr K b4 bb=some f2) ?_ ?_
      ·refine an I fun a I=>?_;obtain⟨H,d4,B⟩:=bd B;refine wl rfl (dK (R:=ad) I El Em rfl rfl 1 rfl 2 rfl d4 rfl fun h1 hu hv ha eT eX f3 a I=>?_);obtain rfl:=eT;refine qy I (bY (k:=0) I Em 1 rfl eX f3 rfl id (us:=(uA H)) rfl rfl (fun h=>by cases h)) fun a I=>?_;refine ka I A8 fun W ho a w O I=>?_;refine go I fun a w I=>?_;obtain⟨a4,e2,B⟩:=bd B;refine kF I KM (pN _ _ I.dlt I.g6 H.b d.b _ e2) fun w a I=>?_;refine aK (J:=fun a w=>∃ (a2:LI) (bg:Bool) (bt:Value) (b0:LV),St L No T 172 [(1,p),(2,pt n 0),(4,pt o 0),(10,pt A 0),(11,.bool true),(13,pt G 0),(17,bt),(18,.bool bg),(20,pt W 0),(21,am a4),(70,p),(71,am (m.length:Int)),(72,am F),(107,z),(108,am (E.length:Int)),(109,am K)] [bX bt b0,bX z D,.box n (bA c e f) 37,.box o [am 0,.slice none 0 0,.slice none 0 0] 37,bo u q,.box A [am (IntKind.i64.wrap (g.r+1)),z,u] 37,.box G (qa d) 81,.box W (uA H) 88] [aT bw p m,au ad b0 a2,au ad D E,aT ad e c.i,aT aa f c.s,au aa q g.s,bK,rW L No [bX e j,bo f l] [aT bw p m,au ad j c.i,au aa l c.s,bK]] a w/\gt K H a4 a2 bg=some f2) ?_ ?_
       ·refine aK (J:=fun a w=>∃ (b2:Bool),St L No T 172 [(1,p),(2,pt n 0),(4,pt o 0),(10,pt A 0),(11,.bool true),(13,pt G 0),(17,S),(18,.bool P),(20,pt W 0),(21,am a4),(70,p),(71,am (m.length:Int)),(72,am F),(107,z),(108,am (E.length:Int)),(109,am K),(123,.bool b2)] [bX S Q,bX z D,.box n (bA c e f) 37,.box o [am 0,.slice none 0 0,.slice none 0 0] 37,bo u q,.box A [am (IntKind.i64.wrap (g.r+1)),z,u] 37,.box G (qa d) 81,.box W (uA H) 88] [aT bw p m,au ad Q N,au ad D E,aT ad e c.i,aT aa f c.s,au aa q g.s,bK,rW L No [bX e j,bo f l] [aT bw p m,au ad j c.i,au aa l c.s,bK]] a w/\gv g d N P K H a4 b2=some f2) ?_ ?_
        ·exact fz
        rintro a w ⟨b2,I,B⟩;unfold gv at B;rcases cd B with⟨f4,B⟩|⟨f4,B⟩
        ·refine an I fun a I=>?_;refine qy I (bE (ps:=[(0,.tmp 126),(1,.tmp 128),(2,.tmp 130)]) I OW A8 rfl (us:=[(bn d.b),[bc d.t],[am (IntKind.i64.wrap (g.r+1))]]) ⟨rfl,⟨rfl,⟨rfl,trivial⟩⟩⟩ (ws:=[am d.b.k,bc d.b.x,bc d.t,am (IntKind.i64.wrap (g.r+1))]) rfl) fun a I=>?_;refine wl rfl (bq (ps:=[(0,.tmp 131)]) I FJ A8 (zl:=[am 0,bc cu,bc cu,am 0]) (by kernel_rfl) rfl (us:=[[am d.b.k,bc d.b.x,bc d.t,am (IntKind.i64.wrap (g.r+1))]]) ⟨rfl,trivial⟩ (ws:=[am d.b.k,bc d.b.x,bc d.t,am (IntKind.i64.wrap (g.r+1))]) rfl rfl rfl rfl fun h2 a w O I=>?_);replace I:=(I.lit (R:=ad) (us:=[am d.b.k,bc d.b.x,bc d.t,am (IntKind.i64.wrap (g.r+1))]) (xs:=[(be.mk d.b d.t (IntKind.i64.wrap (g.r+1)))]) 0 rfl (by decide) (aN (R:=ad) (x:=(be.mk d.b d.t (IntKind.i64.wrap (g.r+1)))) rfl) rfl rfl).zf (R:=ad) 0 rfl 0 rfl;obtain⟨f5,B⟩:=a6 B;refine wl rfl (cr (R:=ad) (xs:=N) (ys:=[(be.mk d.b d.t (IntKind.i64.wrap (g.r+1)))]) I FJ (by decide) (by decide) rfl rfl 0 rfl 3 rfl 0 rfl f5 rfl fun hC hc a w O I=>?_);exact fz
        exact fz
       rintro a w ⟨a2,bg,bt,b0,I,B⟩;unfold gt at B;refine an I fun a I=>?_;rcases cd B with⟨f6,B⟩|⟨f6,B⟩
       ·refine an I fun a I=>?_;refine wl rfl (bq (ps:=[(0,.tmp 137)]) I FJ A8 (zl:=[am 0,bc cu,bc cu,am 0]) (by kernel_rfl) rfl (us:=[(uA H)]) ⟨rfl,trivial⟩ (ws:=(uA H)) rfl rfl rfl rfl fun h3 a w O I=>?_);replace I:=(I.lit (R:=ad) (us:=(uA H)) (xs:=[H]) 0 rfl (by decide) (aN (R:=ad) (x:=H) rfl) rfl rfl).zf (R:=ad) 0 rfl 0 rfl;obtain⟨fd,B⟩:=a6 B;refine wl rfl (cr (R:=ad) (xs:=a2) (ys:=[H]) I FJ (by decide) (by decide) rfl rfl 0 rfl 3 rfl 0 rfl fd rfl fun hD hd a w O I=>?_);exact fz
       exact fz
      rintro a w ⟨b4,bb,bs,av,I,B⟩;unfold gr at B;exact fz
     refine an I fun a I=>?_;cases B
     have hr:=hf2 _ rfl;subst hr;have B:fk g F d N P=some V:=hMo2;exact fin
    rintro a w ⟨a1,b9,bl,ao,I,B⟩;unfold fk at B;refine aK (J:=fun a w=>∃ (b3:LI) (c1:Value) (b1:LV),St L No T 172 [(1,p),(2,pt n 0),(4,pt o 0),(10,pt A 0),(11,.bool true),(17,c1),(70,p),(71,am (m.length:Int)),(72,am F)] [bX c1 b1,.box n (bA c e f) 37,.box o [am 0,.slice none 0 0,.slice none 0 0] 37,bX z D,bo u q,.box A [am (IntKind.i64.wrap (g.r+1)),z,u] 37] [aT bw p m,au ad b1 b3,aT ad e c.i,aT aa f c.s,au ad D E,au aa q g.s,bK,rW L No [bX e j,bo f l] [aT bw p m,au ad j c.i,au aa l c.s,bK]] a w/\fj F b3=some V) ?_ ?_
    ·refine an I fun a I=>?_;rcases cd B with⟨fl,B⟩|⟨fl,B⟩
     ·refine an I fun a I=>?_;refine qy I (bE (ps:=[(0,.tmp 145),(1,.tmp 147),(2,.tmp 149)]) I OW A8 rfl (us:=[(bn d.b),[bc d.t],[am (IntKind.i64.wrap (g.r+1))]]) ⟨rfl,⟨rfl,⟨rfl,trivial⟩⟩⟩ (ws:=[am d.b.k,bc d.b.x,bc d.t,am (IntKind.i64.wrap (g.r+1))]) rfl) fun a I=>?_;refine wl rfl (bq (ps:=[(0,.tmp 150)]) I FJ A8 (zl:=[am 0,bc cu,bc cu,am 0]) (by kernel_rfl) rfl (us:=[[am d.b.k,bc d.b.x,bc d.t,am (IntKind.i64.wrap (g.r+1))]]) ⟨rfl,trivial⟩ (ws:=[am d.b.k,bc d.b.x,bc d.t,am (IntKind.i64.wrap (g.r+1))]) rfl rfl rfl rfl fun h4 a w O I=>?_);replace I:=(I.lit (R:=ad) (us:=[am d.b.k,bc d.b.x,bc d.t,am (IntKind.i64.wrap (g.r+1))]) (xs:=[(be.mk d.b d.t (IntKind.i64.wrap (g.r+1)))]) 0 rfl (by decide) (aN (R:=ad) (x:=(be.mk d.b d.t (IntKind.i64.wrap (g.r+1)))) rfl) rfl rfl).zf (R:=ad) 0 rfl 0 rfl;obtain⟨fn,B⟩:=a6 B;refine wl rfl (cr (R:=ad) (xs:=a1) (ys:=[(be.mk d.b d.t (IntKind.i64.wrap (g.r+1)))]) I FJ (by decide) (by decide) rfl rfl 0 rfl 3 rfl 0 rfl fn rfl fun hE hf a w O I=>?_);exact fz
     exact fz
    rintro a w ⟨b3,c1,b1,I,B⟩;unfold fj at B;exact fz
   rintro a w ⟨ag,b8,bi,ak,I,B⟩;unfold jc at B;exact fz
  refine an I fun a I=>?_;cases B
  have hr:=hf1 _ rfl;subst hr;have B:k6 c g M E=some y:=hMo1;exact fin
 rintro a w ⟨af,b7,a5,X,I,B⟩;unfold k6 at B;refine ax ?_;refine an I fun a I=>?_;rcases cd B with⟨fr,B⟩|⟨fr,B⟩
 ·refine go I fun a w I=>?_;replace I:=I.thaw 5 rfl;cases B
  refine aG I Tryz.results26 (eA I rfl 3 rfl tU rfl (fun h=>by cases h) (aF I rfl aH)) ?_;exact⟨e,j,f,l,rfl,I.zo ⟨.inr (az (i:=0) rfl),⟨.inr (az (i:=1) rfl),trivial⟩⟩ 0 rfl 1 rfl,I.zo ⟨.inr (az (i:=0) rfl),⟨.inr (az (i:=1) rfl),trivial⟩⟩ 1 rfl 2 rfl,(I.zp 0 rfl 1 rfl (by decide))⟩
 refine an I fun a I=>?_;rcases cd B with⟨fs,B⟩|⟨fs,B⟩
 ·refine go I fun a w I=>?_;replace I:=I.thaw 5 rfl;cases B
  refine aG I Tryz.results26 (eA I rfl 3 rfl tU rfl (fun h=>by cases h) (aF I rfl aH)) ?_;exact⟨e,j,f,l,rfl,I.zo ⟨.inr (az (i:=0) rfl),⟨.inr (az (i:=1) rfl),trivial⟩⟩ 0 rfl 1 rfl,I.zo ⟨.inr (az (i:=0) rfl),⟨.inr (az (i:=1) rfl),trivial⟩⟩ 1 rfl 2 rfl,(I.zp 0 rfl 1 rfl (by decide))⟩
 refine an I fun a I=>?_;rcases cd B with⟨fu,B⟩|⟨fu,B⟩
 ·refine go I fun a w I=>?_;replace I:=I.thaw 5 rfl;cases B
  refine aG I Tryz.results26 (eA I rfl 3 rfl tU rfl (fun h=>by cases h) (aF I rfl aH)) ?_;exact⟨e,j,f,l,rfl,I.zo ⟨.inr (az (i:=0) rfl),⟨.inr (az (i:=1) rfl),trivial⟩⟩ 0 rfl 1 rfl,I.zo ⟨.inr (az (i:=0) rfl),⟨.inr (az (i:=1) rfl),trivial⟩⟩ 1 rfl 2 rfl,(I.zp 0 rfl 1 rfl (by decide))⟩
 refine go I fun a w I=>?_;cases B
 refine aG I Tryz.results26 (eA I rfl 1 rfl tU rfl (fun h=>by cases h) (aF I rfl aH)) ?_;exact⟨a5,X,u,q,rfl,I.zo ⟨.inr (az (i:=2) rfl),⟨.inr (az (i:=3) rfl),trivial⟩⟩ 2 rfl 2 rfl,I.zo ⟨.inr (az (i:=2) rfl),⟨.inr (az (i:=3) rfl),trivial⟩⟩ 3 rfl 3 rfl,(I.zp 2 rfl 3 rfl (by decide))⟩
end
end
section
set_option maxRecDepth 100000
set_option maxHeartbeats 4000000
variable (T:Nat->Prop) (L:World) (hT:TW T L)
include hT
noncomputable section
def qx:=some (true)
def jO (e f:LK) (b:Int):Option (Fl (Int) (Fl (Unit) Bool)):=cond (decide (b<(e.length:Int))) ((bp e b).bind fun c=>(bp f b).bind fun d=>cond (!(d.k==c.k&&d.x.toList==c.x.toList)) (some (.out (.out false))) (some (.go (IntKind.i64.wrap (b+1))))) (some (.out (.go ())))
def m8 (b c:LK):=cond ((b.length:Int) != (c.length:Int)) (some (false)) ((loop (fun s:Int=>jO b c s) 0).bind fun r=>Fl.el r (fun s=>qx) (fun y=>some (y)))
theorem AK (c d:LK) (i j:Value) (u:aQ ah T L i c) (z:aQ ah T L j d) (y:Bool) (B:m8 c d=some y):bm aO No 24 [i,j] L (fun v w'=>v = .bool y):=by
 refine en Tryz.func24 Tryz.ntmps24 hT fun a I=>?_;replace I:=(I.fS (aQ.dn u)).fS (aQ.dn z);unfold m8 at B;refine an I fun a I=>?_;refine ax ?_;refine an I fun a I=>?_;rcases cd B with⟨m,B⟩|⟨m,B⟩
 ·exact fz
 refine an I fun a I=>?_;refine aK (J:=fun a w=>St L No T 26 [] [] [] a w/\qx=some y) ?_ ?_
 ·refine an I fun a I=>?_;obtain⟨M,t,hMo1⟩:=bd B;refine bz _ (fun s a w=>∃ (b:Int),b=s/\St L No T 26 [(1,j),(12,i),(13,am (c.length:Int)),(14,am b)] [] [aT ah j d,aT ah i c] a w) t ⟨_,rfl,I.mt [] [0,1]⟩ ?_;rintro s a w G ⟨b,rfl,I⟩ B hf1;have B:jO c d b=some G:=B;unfold jO at B;refine an I fun a I=>?_;refine ax ?_;rcases cd B with⟨n,B⟩|⟨n,B⟩
  ·refine an I fun a I=>?_;refine ax ?_;refine an I fun a I=>?_;obtain⟨e,g,B⟩:=bd B;refine wl rfl (bv (R:=ah) I nC gB rfl rfl 1 rfl g rfl fun A K E o a I=>?_);obtain rfl:=o;refine kA I jV fun D H a w O I=>?_;refine go I fun a w I=>?_;refine ax ?_;refine dr [] I fun w hQ I=>?_;refine gE [0,1] I fun a I=>?_;obtain⟨f,h,B⟩:=bd B;obtain⟨l,r,F,p,q,I⟩:=km (R:=ah) I nC gB 1 rfl h;obtain rfl:=p;refine dq 2 I (v:=pt l r) (q rfl rfl) fun a I=>?_;refine gE [3,4] I fun a I=>?_;refine dq 5 I (v:=.bool (!(f.k==e.k&&f.x.toList==e.x.toList))) (Bi I rfl rfl) fun a I=>?_;refine eD ?_;exact fz
  exact fz
 rintro a w ⟨I,B⟩;unfold qx at B;exact fz
def lD (b:Int):=cond (decide (b<0)) (some ((ae.mk 0 cu))) (cond (decide ((99:Int)<b)) (some ((ae.mk 0 cu))) ((yj b).bind fun c=>some ((ae.mk 30 c))))
theorem sS (hLv:dC T L) (b:Int) (y:ae) (B:lD b=some y):bm aO No 11 [am b] L (fun v w'=>v = .agg (bn y).toArray):=by
 refine en Tryz.func11 Tryz.ntmps11 hT fun a I=>?_;replace I:=I.fact bK (dC.dn hLv);unfold lD at B;refine kA I jV fun g h a w O I=>?_;refine an I fun a I=>?_;refine ax ?_;refine ip ?_;refine an I fun a I=>?_;rcases cd B with⟨e,B⟩|⟨e,B⟩
 ·refine an I fun a I=>?_;refine qy I (bE (ps:=[]) I CW jV rfl (us:=[]) trivial (ws:=[am 0,bc cu]) rfl) fun a I=>?_;refine go I fun a w I=>?_;cases B
  refine aG I rfl (rC 0 I) ?_;exact rfl
 refine an I fun a I=>?_;rcases cd B with⟨f,B⟩|⟨f,B⟩
 ·refine an I fun a I=>?_;refine qy I (bE (ps:=[]) I CW jV rfl (us:=[]) trivial (ws:=[am 0,bc cu]) rfl) fun a I=>?_;refine go I fun a w I=>?_;cases B
  refine aG I rfl (rC 0 I) ?_;exact rfl
 refine an I fun a I=>?_;obtain⟨c,d,B⟩:=bd B;refine kE I Mg (zH _ _ I.dlt I.g0 b _ d) fun w a I=>?_;refine qy I (bE (ps:=[(0,.const (am 30)),(1,.tmp 11)]) I CW jV rfl (us:=[[am 30],[bc c]]) ⟨rfl,⟨rfl,trivial⟩⟩ (ws:=[am 30,bc c]) rfl) fun a I=>?_;refine go I fun a w I=>?_;cases B
 refine aG I rfl (rC 0 I) ?_;exact rfl
def AA (b:LN):=some ((bH.mk b 0))
theorem HS (d:LN) (b:Value) (g:aQ (aY.int .i64) T L b d) (y:bH) (B:AA d=some y):bm aO No 7 [b] L (fun v w'=>∃ (c:Nat) (f:Value),v=pt c 0/\L.heap.size<=c/\w'.heap[c]? = some (.cells (bQ y f).toArray 83 (0,0))/\aQ (aY.int .i64) (dT T [.box c (bQ y f) 83]) w' f y.L):=by
 refine en Tryz.func7 Tryz.ntmps7 hT fun a I=>?_;replace I:=I.fS (aQ.dn g);unfold AA at B;refine an I fun a I=>?_;refine qy I (bE (ps:=[(0,.tmp 3)]) I Ve Vu rfl (us:=[[b]]) ⟨(vD (aQ.one (I.g0:aQ (aY.int .i64) _ _ _ _))),trivial⟩ (ws:=[b,am 0]) rfl) fun a I=>?_;refine kb I fun e h a w O I=>?_;refine an I fun a I=>?_;cases B
 refine aG I rfl (aF I rfl aH) ?_;exact⟨e,b,rfl,I.boxNew 0 rfl,I.zb 0 rfl,(aQ.up ⟨.inr (az (i:=0) rfl),trivial⟩ I.g0)⟩
def xi (c b:Int):=cond (decide (b<1)) (some (0)) (gd (b != 0) <| gd (b != 0) <| some (Int.tmod (IntKind.i64.wrap ((Int.tmod c b)+b)) b))
theorem I9 (c b y:Int) (B:xi c b=some y):bm aO No 10 [am c,am b] L (fun v w'=>v=am y):=by
 refine en Tryz.func10 Tryz.ntmps10 hT fun a I=>?_;unfold xi at B;refine an I fun a I=>?_;refine ax ?_;refine an I fun a I=>?_;rcases cd B with⟨d,B⟩|⟨d,B⟩
 ·exact fz
 refine an I fun a I=>?_;obtain⟨e,B⟩:=a6 B;refine qy I (Dw I rfl rfl (bne_iff_ne.1 e)) fun a I=>?_;refine an I fun a I=>?_;obtain⟨f,B⟩:=a6 B;refine qy I (Dw I rfl rfl (bne_iff_ne.1 f)) fun a I=>?_;exact fz
def cN (b:bH) (e:Int):=cond (decide ((b.L.length:Int)<=b.k1)) (some ((0,b))) ((bp b.L (IntKind.i64.wrap ((IntKind.i64.wrap (b.k1+1))-1))).bind fun c=>(xi c e).bind fun d=>some ((d,(bH.mk b.L (IntKind.i64.wrap (b.k1+1))))))
theorem ce (d:bH) (f:Int) (e:Value) (b:Nat) (s:L.heap[b]? = some (.cells (bQ d e).toArray 83 (0,0))) (q:¬ T b) (t:aQ (aY.int .i64) (dT T [.box b (bQ d e) 83]) L e d.L) (y:Int×bH) (B:cN d f=some y):bm aO (fun k=>k=b) 32 [pt b 0,am f] L (fun v w'=>∃ (j:Value),v=am y.1/\w'.heap[b]? = some (.cells (bQ y.2 j).toArray 83 (0,0))/\aQ (aY.int .i64) (dT T [.box b (bQ y.2 j) 83]) w' j y.2.L/\e=j):=by
 refine wY (c:=_) Tryz.func32 rfl T 35 Tryz.ntmps32 hT rfl s q fun a I=>?_;replace I:=I.fS t;unfold cN at B;refine an I fun a I=>?_;refine ax ?_;refine ax ?_;refine dr [] I fun w hQ I=>?_;refine gE [0,1,2,3,4,5,6,7,8,9] I fun a I=>?_;refine eD ?_;refine an I fun a I=>?_;rcases cd B with⟨n,B⟩|⟨n,B⟩
 ·refine an I fun a I=>?_;cases B
  refine aG I rfl (aF I rfl aH) ?_;exact⟨e,rfl,I.zb 0 rfl,(aQ.up ⟨.inr (az (i:=0) rfl),trivial⟩ I.g0),rfl⟩
 refine go I fun a w I=>?_;refine ax ?_;refine dr [] I fun w hQ I=>?_;refine gE [0,1,2,3,4,5,6,7,8] I fun a I=>?_;obtain⟨m,g,B⟩:=bd B;obtain⟨l,r,u,o,p,I⟩:=km (R:=(aY.int .i64)) I Ln LG 0 rfl g;obtain rfl:=o;refine dq 9 I (v:=pt l r) (p rfl rfl) fun a I=>?_;refine gE [10,11] I fun a I=>?_;obtain⟨x,h,B⟩:=bd B;refine ec 12 I Uk (I9 _ _ I.dlt m f _ h) fun _ w C a O U=>?_;obtain rfl:=C;have I:=fA U;refine gE [13] I fun a I=>?_;refine eD ?_;refine an I fun a I=>?_;cases B
 refine aG I rfl (aF I rfl aH) ?_;exact⟨e,rfl,I.zb 0 rfl,(aQ.up ⟨.inr (az (i:=0) rfl),trivial⟩ I.g1),rfl⟩
def uY (e:bH) (c:LY):=(cN e (c.length:Int)).bind fun b=>(bp c b.1).bind fun d=>some ((d,(bH.mk b.2.L b.2.k1)))
theorem Hi (b:bH) (h:LY) (f t:Value) (d:Nat) (q:L.heap[d]? = some (.cells (bQ b f).toArray 83 (0,0))) (o:¬ T d) (r:aQ (aY.int .i64) (dT T [.box d (bQ b f) 83]) L f b.L) (s:aQ aY.str (dT T [.box d (bQ b f) 83]) L t h) (y:ByteArray×bH) (B:uY b h=some y):bm aO (fun k=>k=d) 129 [pt d 0,t] L (fun v w'=>∃ (m:Value),v=bc y.1/\w'.heap[d]? = some (.cells (bQ y.2 m).toArray 83 (0,0))/\aQ (aY.int .i64) (dT T [.box d (bQ y.2 m) 83]) w' m y.2.L/\f=m):=by
 refine wY (c:=_) Tryz.func129 rfl T 12 Tryz.ntmps129 hT rfl q o fun a I=>?_;replace I:=(I.fS r).fS s;unfold uY at B;refine an I fun a I=>?_;obtain⟨p,l,B⟩:=bd B;refine wl rfl (dA I rY rfl rfl 0 rfl (ce _ _ (I.drop 0).dlt b (h.length:Int) _ _ (I.zb 0 rfl) (I.zi 0 rfl) (aQ.lent (i:=0) rfl I.g1) _ l) fun _ w C O=>?_);obtain⟨D,he,hrow,g,e⟩:=C;obtain rfl:=he.symm;subst e;refine⟨(bQ p.2 f),hrow,fun a I=>?_⟩;replace I:=I.fS (aQ.back (i:=0) rfl g);obtain⟨z,j,B⟩:=bd B;refine wl rfl (bv (R:=aY.str) I H7 Pd rfl rfl 1 rfl j rfl fun u A x n a I=>?_);obtain rfl:=n;refine an I fun a I=>?_;cases B
 refine aG I rfl (aF I rfl aH) ?_;exact⟨f,rfl,I.zb 0 rfl,(aQ.up ⟨.inr (az (i:=0) rfl),trivial⟩ I.g1),rfl⟩
def r9 (e:bH):=(cN e 4).bind fun b=>(lD b.1).bind fun d=>(uY (bH.mk b.2.L b.2.k1) ([(ByteArray.mk #[48]),(ByteArray.mk #[49]),(ByteArray.mk #[50]),(ByteArray.mk #[51]),(ByteArray.mk #[55]),(ByteArray.mk #[49,48,48]),cu,(ByteArray.mk #[120]),(ByteArray.mk #[49,54]),(ByteArray.mk #[49])])).bind fun c=>some (((ci.mk d c.1),(bH.mk c.2.L c.2.k1)))
theorem D5 (b:bH) (f:Value) (e:Nat) (t:L.heap[e]? = some (.cells (bQ b f).toArray 83 (0,0))) (s:¬ T e) (u:aQ (aY.int .i64) (dT T [.box e (bQ b f) 83]) L f b.L) (hLv:dC (dT T [.box e (bQ b f) 83]) L) (y:ci×bH) (B:r9 b=some y):bm aO (fun k=>k=e) 75 [pt e 0] L (fun v w'=>∃ (r:Value),v = .agg (qa y.1).toArray/\w'.heap[e]? = some (.cells (bQ y.2 r).toArray 83 (0,0))/\aQ (aY.int .i64) (dT T [.box e (bQ y.2 r) 83]) w' r y.2.L/\f=r):=by
 refine wY (c:=_) Tryz.func75 rfl T 10 Tryz.ntmps75 hT rfl t s fun a I=>?_;replace I:=(I.fact bK hLv).fS u;unfold r9 at B;refine kA I Gv fun z D a w O I=>?_;refine an I fun a I=>?_;obtain⟨d,o,B⟩:=bd B;refine wl rfl (dA I rY rfl rfl 1 rfl (ce _ _ (I.drop 1).dlt b 4 _ _ (I.zb 1 rfl) (I.zi 1 rfl) (aQ.lent (i:=1) rfl I.g0) _ o) fun _ w C O=>?_);obtain⟨E,he,hrow,m,g⟩:=C;obtain rfl:=he.symm;subst g;refine⟨(bQ d.2 f),hrow,fun a I=>?_⟩;replace I:=I.fS (aQ.back (i:=1) rfl m);obtain⟨j,p,B⟩:=bd B;refine kF I Oh (sS _ _ I.dlt I.g2 d.1 _ p) fun w a I=>?_;refine wl rfl (bq (ps:=[(0,.const (.string ⟨#[48]⟩)),(1,.const (.string ⟨#[49]⟩)),(2,.const (.string ⟨#[50]⟩)),(3,.const (.string ⟨#[51]⟩)),(4,.const (.string ⟨#[55]⟩)),(5,.const (.string ⟨#[49,48,48]⟩)),(6,.const (.string ⟨#[]⟩)),(7,.const (.string ⟨#[120]⟩)),(8,.const (.string ⟨#[49,54]⟩)),(9,.const (.string ⟨#[49]⟩))]) I Cz Ug (zl:=[bc cu,bc cu,bc cu,bc cu,bc cu,bc cu,bc cu,bc cu,bc cu,bc cu]) (by kernel_rfl) rfl (us:=[[bc (ByteArray.mk #[48])],[bc (ByteArray.mk #[49])],[bc (ByteArray.mk #[50])],[bc (ByteArray.mk #[51])],[bc (ByteArray.mk #[55])],[bc (ByteArray.mk #[49,48,48])],[bc cu],[bc (ByteArray.mk #[120])],[bc (ByteArray.mk #[49,54])],[bc (ByteArray.mk #[49])]]) ⟨rfl,⟨rfl,⟨rfl,⟨rfl,⟨rfl,⟨rfl,⟨rfl,⟨rfl,⟨rfl,⟨rfl,trivial⟩⟩⟩⟩⟩⟩⟩⟩⟩⟩ (ws:=[bc (ByteArray.mk #[48]),bc (ByteArray.mk #[49]),bc (ByteArray.mk #[50]),bc (ByteArray.mk #[51]),bc (ByteArray.mk #[55]),bc (ByteArray.mk #[49,48,48]),bc cu,bc (ByteArray.mk #[120]),bc (ByteArray.mk #[49,54]),bc (ByteArray.mk #[49])]) rfl rfl rfl rfl fun A a w O I=>?_);replace I:=(I.lit (R:=aY.str) (us:=[bc (ByteArray.mk #[48]),bc (ByteArray.mk #[49]),bc (ByteArray.mk #[50]),bc (ByteArray.mk #[51]),bc (ByteArray.mk #[55]),bc (ByteArray.mk #[49,48,48]),bc cu,bc (ByteArray.mk #[120]),bc (ByteArray.mk #[49,54]),bc (ByteArray.mk #[49])]) (xs:=[(ByteArray.mk #[48]),(ByteArray.mk #[49]),(ByteArray.mk #[50]),(ByteArray.mk #[51]),(ByteArray.mk #[55]),(ByteArray.mk #[49,48,48]),cu,(ByteArray.mk #[120]),(ByteArray.mk #[49,54]),(ByteArray.mk #[49])]) 0 rfl (by decide) ((aN (R:=aY.str) (x:=(ByteArray.mk #[48])) rfl).append ((aN (R:=aY.str) (x:=(ByteArray.mk #[49])) rfl).append ((aN (R:=aY.str) (x:=(ByteArray.mk #[50])) rfl).append ((aN (R:=aY.str) (x:=(ByteArray.mk #[51])) rfl).append ((aN (R:=aY.str) (x:=(ByteArray.mk #[55])) rfl).append ((aN (R:=aY.str) (x:=(ByteArray.mk #[49,48,48])) rfl).append ((aN (R:=aY.str) (x:=cu) rfl).append ((aN (R:=aY.str) (x:=(ByteArray.mk #[120])) rfl).append ((aN (R:=aY.str) (x:=(ByteArray.mk #[49,54])) rfl).append (aN (R:=aY.str) (x:=(ByteArray.mk #[49])) rfl)))))))))) rfl rfl).zf (R:=aY.str) 0 rfl 0 rfl;obtain⟨l,q,B⟩:=bd B;refine wl rfl (dA I Sf rfl rfl 1 rfl (Hi _ _ (I.drop 1).dlt (bH.mk d.2.L d.2.k1) ([(ByteArray.mk #[48]),(ByteArray.mk #[49]),(ByteArray.mk #[50]),(ByteArray.mk #[51]),(ByteArray.mk #[55]),(ByteArray.mk #[49,48,48]),cu,(ByteArray.mk #[120]),(ByteArray.mk #[49,54]),(ByteArray.mk #[49])]) _ _ _ (I.zb 1 rfl) (I.zi 1 rfl) (aQ.lent (i:=1) rfl I.g2) (aQ.lent (i:=1) rfl I.g0) _ q) fun _ w C O=>?_);obtain⟨F,he,hrow,n,h⟩:=C;obtain rfl:=he.symm;subst h;refine⟨(bQ l.2 f),hrow,fun a I=>?_⟩;replace I:=I.fS (aQ.back (i:=1) rfl n);refine qy I (bE (ps:=[(0,.tmp 5),(1,.tmp 8)]) I TB Gv rfl (us:=[(bn j),[bc l.1]]) ⟨rfl,⟨rfl,trivial⟩⟩ (ws:=[am j.k,bc j.x,bc l.1]) rfl) fun a I=>?_;refine go I fun a w I=>?_;cases B
 refine aG I rfl (rC 0 I) ?_;exact⟨f,rfl,I.zb 1 rfl,(aQ.up ⟨.inr (az (i:=1) rfl),trivial⟩ I.g0),rfl⟩
def o8 (d:LC) (b:LN) (c:Int):=some ((d,(bH.mk b c)))
def o9 (d:LC) (g:Int) (e:LN) (f:Int):Option (Fl (LC×Int×LN×Int) (LC×LN×Int)):=cond (decide ((0:Int)<g)) ((r9 (bH.mk e f)).bind fun c=>gd (cm (d.length+([(ci.mk (ae.mk c.1.b.k c.1.b.x) c.1.t)]).length)) <| some (.go ((d++([(ci.mk (ae.mk c.1.b.k c.1.b.x) c.1.t)])),IntKind.i64.wrap (g-1),c.2.L,c.2.k1))) (some (.out (d,e,f)))
def nW (d:bH) (c:Int):=(cN d (IntKind.i64.wrap (c+1))).bind fun b=>(loop (fun s:LC×Int×LN×Int=>o9 s.1 s.2.1 s.2.2.1 s.2.2.2) (([]:List ci),b.1,b.2.L,b.2.k1)).bind fun r=>o8 r.1 r.2.1 r.2.2
theorem xh (l:bH) (o:Int) (j:Value) (e:Nat) (W:L.heap[e]? = some (.cells (bQ l j).toArray 83 (0,0))) (S:¬ T e) (Y:aQ (aY.int .i64) (dT T [.box e (bQ l j) 83]) L j l.L) (hLv:dC (dT T [.box e (bQ l j) 83]) L) (y:LC×bH) (B:nW l o=some y):bm aO (fun k=>k=e) 27 [pt e 0,am o] L (fun v w'=>∃ (N:Value) (rJ:bG) (H:Value),v=N/\jy bw T L w' [oO N rJ,.box e (bQ y.2 H) 83] 81 N rJ y.1/\w'.heap[e]? = some (.cells (bQ y.2 H).toArray 83 (0,0))/\aQ (aY.int .i64) (dT T [oO N rJ,.box e (bQ y.2 H) 83]) w' H y.2.L/\j=H):=by
 refine wY (c:=_) Tryz.func27 rfl T 21 Tryz.ntmps27 hT rfl W S fun a I=>?_;replace I:=(I.fact bK hLv).fS Y;unfold nW at B;refine an I fun a I=>?_;refine aK (J:=fun a w=>∃ (D:LC) (z:LN) (A:Int) (p:Value) (m:LV),St L (fun k=>k=e) T 21 [(5,p)] [oO p m,.box e [j,am A] 83] [au bw m D,aT (aY.int .i64) j z,bK] a w/\o8 D z A=some y) ?_ ?_
 ·refine an I fun a I=>?_;obtain⟨V,M,B⟩:=bd B;refine wl rfl (dA I rY rfl rfl 0 rfl (ce _ _ (I.drop 0).dlt l (IntKind.i64.wrap (o+1)) _ _ (I.zb 0 rfl) (I.zi 0 rfl) (aQ.lent (i:=0) rfl I.g0) _ M) fun _ w C O=>?_);obtain⟨a2,he,hrow,F,q⟩:=C;obtain rfl:=he.symm;subst q;refine⟨(bQ V.2 j),hrow,fun a I=>?_⟩;replace I:=I.fS (aQ.back (i:=0) rfl F);refine an I fun a I=>?_;replace I:=I.zn bw 81 (by decide);obtain⟨r1,X,hMo1⟩:=bd B;refine bz _ (fun s a w=>∃ (h:LC) (n:Int) (f:LN) (g:Int) (E:Value) (u:LV),(h,n,f,g)=s/\St L (fun k=>k=e) T 21 [(0,pt e 0),(5,E),(6,am n)] [oO E u,.box e [j,am g] 83] [au bw u h,aT (aY.int .i64) j f,bK] a w) X ⟨_,_,_,_,_,_,rfl,I.mt [0,1] [0,1,3]⟩ ?_;rintro s a w f1 ⟨h,n,f,g,E,u,rfl,I⟩ B hf1;have B:o9 h n f g=some f1:=B;unfold o9 at B;refine ax ?_;refine an I fun a I=>?_;rcases cd B with⟨P,B⟩|⟨P,B⟩
  ·refine an I fun a I=>?_;refine ax ?_;refine an I fun a I=>?_;obtain⟨d,K,B⟩:=bd B;refine wl rfl (dA I UI rfl rfl 1 rfl (D5 _ _ (I.drop 1).dlt (bH.mk f g) _ _ (I.zb 1 rfl) (I.zi 1 rfl) (aQ.lent (i:=1) rfl I.g1) (bK.keep I.g2 (aw _ _) (fun k O=>.inl ((uW (i:=1) rfl k).1 O))) _ K) fun _ w C O=>?_);obtain⟨a3,he,hrow,G,r⟩:=C;obtain rfl:=he.symm;subst r;refine⟨(bQ d.2 j),hrow,fun a I=>?_⟩;replace I:=I.fS (aQ.back (i:=1) rfl G);refine wl rfl (bq (ps:=[(0,.tmp 17)]) I QK Gv (zl:=[am 0,bc cu,bc cu]) (by kernel_rfl) rfl (us:=[(qa d.1)]) ⟨rfl,trivial⟩ (ws:=(qa d.1)) rfl rfl rfl rfl fun Z a w O I=>?_);replace I:=(I.lit (R:=bw) (us:=(qa d.1)) (xs:=[(ci.mk (ae.mk d.1.b.k d.1.b.x) d.1.t)]) 0 rfl (by decide) (aN (R:=bw) (x:=(ci.mk (ae.mk d.1.b.k d.1.b.x) d.1.t)) rfl) rfl rfl).zf (R:=bw) 0 rfl 0 rfl;obtain⟨Q,B⟩:=a6 B;refine wl rfl (cr (R:=bw) (xs:=h) (ys:=[(ci.mk (ae.mk d.1.b.k d.1.b.x) d.1.t)]) I QK (by decide) (by decide) rfl rfl 0 rfl 3 rfl 0 rfl Q rfl fun a4 a0 a w O I=>?_);refine an I fun a I=>?_;exact fin
  refine an I fun a I=>?_;cases B
  have hr:=hf1 _ rfl;subst hr;have B:o8 h f g=some y:=hMo1;exact fin
 rintro a w ⟨D,z,A,p,m,I,B⟩;unfold o8 at B;refine an I fun a I=>?_;cases B
 refine aG I rfl (aF I rfl aH) ?_;exact⟨p,m,j,rfl,I.zm ⟨.inr (az (i:=0) rfl),⟨.inr (az (i:=1) rfl),trivial⟩⟩ 0 rfl 0 rfl 1 rfl (by decide),I.zb 1 rfl,(aQ.up ⟨.inr (az (i:=0) rfl),⟨.inr (az (i:=1) rfl),trivial⟩⟩ I.g1),rfl⟩
def m9 (b c:Int):=some ((b,c))
def gn (c:LU) (f b:Int):Option (Fl (Int) (Int)):=(bp c f).bind fun d=>cond d.q (cond (decide (b<(c.length:Int))) ((bp c b).bind fun e=>cond e.q (some (.go (IntKind.i64.wrap (b+1)))) (some (.out b))) (some (.out b))) (some (.out b))
def na (b:LU) (c d:Int):=(loop (fun s:Int=>gn b c s) (IntKind.i64.wrap (c+1))).bind fun r=>m9 d r
def gp (c:LU) (f b:Int):Option (Fl (Int) (Int)):=(bp c f).bind fun d=>cond d.q (cond (decide ((0:Int)<b)) ((bp c (IntKind.i64.wrap (b-1))).bind fun e=>cond e.q (some (.go (IntKind.i64.wrap (b-1)))) (some (.out b))) (some (.out b))) (some (.out b))
def pO (b:LU) (c:Int):=cond (decide (c<0)) (some ((0,0))) (cond (decide ((b.length:Int)<=c)) (some ((0,0))) ((loop (fun s:Int=>gp b c s) c).bind fun r=>na b c r))
theorem ym (b:LU) (c:Int) (g:Value) (K:aQ ay T L g b) (y:Int×Int) (B:pO b c=some y):bm aO No 73 [g,am c] L (fun v w'=>v = .tuple #[am y.1,am y.2]):=by
 refine en Tryz.func73 Tryz.ntmps73 hT fun a I=>?_;replace I:=I.fS (aQ.dn K);unfold pO at B;refine an I fun a I=>?_;refine ax ?_;refine ip ?_;refine an I fun a I=>?_;rcases cd B with⟨x,B⟩|⟨x,B⟩
 ·refine an I fun a I=>?_;cases B
  refine aG I Tryz.results73 (aF I rfl (aF I rfl aH)) ?_;exact rfl
 refine an I fun a I=>?_;rcases cd B with⟨z,B⟩|⟨z,B⟩
 ·refine an I fun a I=>?_;cases B
  refine aG I Tryz.results73 (aF I rfl (aF I rfl aH)) ?_;exact rfl
 refine an I fun a I=>?_;refine aK (J:=fun a w=>∃ (d:Int),St L No T 60 [(0,g),(1,am c),(6,am d),(7,am (IntKind.i64.wrap (c+1)))] [] [aT ay g b] a w/\na b c d=some y) ?_ ?_
 ·refine an I fun a I=>?_;obtain⟨r1,k,hMo1⟩:=bd B;refine bz _ (fun s a w=>∃ (e:Int),e=s/\St L No T 60 [(0,g),(1,am c),(6,am e),(7,am (IntKind.i64.wrap (c+1)))] [] [aT ay g b] a w) k ⟨_,rfl,I.mt [] [0]⟩ ?_;rintro s a w u ⟨e,rfl,I⟩ B hf1;have B:gp b c e=some u:=B;unfold gp at B;refine ax ?_;refine ip ?_;refine an I fun a I=>?_;obtain⟨a0,n,B⟩:=bd B;refine wl rfl (bv (R:=ay) I uM tV rfl rfl 0 rfl n rfl fun M a2 S A a I=>?_);obtain⟨ab,rfl,p⟩:=A;replace I:=I.fS p;refine an I fun a I=>?_;rcases cd B with⟨D,B⟩|⟨D,B⟩
  ·refine an I fun a I=>?_;rcases cd B with⟨i,B⟩|⟨i,B⟩
   ·refine an I fun a I=>?_;obtain⟨a1,o,B⟩:=bd B;refine wg I rfl rfl rfl i (bv (R:=ay) I uM tV rfl rfl 2 rfl o rfl fun N a3 V E a I=>?_);obtain⟨af,rfl,q⟩:=E;replace I:=I.fS q;exact fz
   exact fz
  exact fz
 rintro a w ⟨d,I,B⟩;unfold na at B;refine aK (J:=fun a w=>∃ (h:Int),St L No T 60 [(6,am d),(7,am h)] [] [] a w/\m9 d h=some y) ?_ ?_
 ·refine an I fun a I=>?_;obtain⟨r1,k,hMo1⟩:=bd B;refine bz _ (fun s a w=>∃ (f:Int),f=s/\St L No T 60 [(0,g),(1,am c),(6,am d),(7,am f)] [] [aT ay g b] a w) k ⟨_,rfl,I.mt [] [0]⟩ ?_;rintro s a w u ⟨f,rfl,I⟩ B hf1;have B:gn b c f=some u:=B;unfold gn at B;refine ax ?_;refine ip ?_;refine an I fun a I=>?_;obtain⟨Y,l,B⟩:=bd B;refine wl rfl (bv (R:=ay) I uM tV rfl rfl 0 rfl l rfl fun P a4 W F a I=>?_);obtain⟨ag,rfl,r⟩:=F;replace I:=I.fS r;refine an I fun a I=>?_;rcases cd B with⟨G,B⟩|⟨G,B⟩
  ·refine an I fun a I=>?_;rcases cd B with⟨j,B⟩|⟨j,B⟩
   ·refine an I fun a I=>?_;obtain⟨Z,m,B⟩:=bd B;refine wg I rfl rfl rfl j (bv (R:=ay) I uM tV rfl rfl 2 rfl m rfl fun Q a5 X H a I=>?_);obtain⟨ak,rfl,t⟩:=H;replace I:=I.fS t;exact fz
   exact fz
  exact fz
 rintro a w ⟨h,I,B⟩;unfold m9 at B;refine an I fun a I=>?_;cases B
 refine aG I Tryz.results73 (aF I rfl (aF I rfl aH)) ?_;exact rfl
def oM (d:LU) (b:LN) (c:Int):=some ((d,(bH.mk b c)))
def rO (d:Int) (e:LU) (b:LN) (c:Int):Option (Fl (LU×Int×LN×Int) (LU×LN×Int)):=some (.go (e,IntKind.i64.wrap (d+1),b,c))
def oN (c:LU) (b:Int) (f:Bool) (g h:Int) (d:LN) (e:Int) (i:(List dz)):=(bp c b).bind fun j=>rO b (c.set (Int.toNat b) (aL.mk f i g h)) d e
def rP (d:Int) (b:LN) (c:Int) (e:(List dz)):Option (Fl (Int×LN×Int×(List dz)) (LN×Int×(List dz))):=some (.go (IntKind.i64.wrap (d-1),b,c,e))
def mf (i:Int) (b:(List dz)) (c:Bool) (d:Int) (g:LN) (h:Int) (e:Bool) (f:Int):=gd (cm (b.length+([(dz.mk c e d f)]).length)) <| rP i g h (b++([(dz.mk c e d f)]))
def jZ (e:Int) (f:(List dz)) (g:Bool) (j h:Int) (i:Bool) (c:LN) (d:Int):=cond i ((cN (bH.mk c d) j).bind fun b=>mf e f g h b.2.L b.2.k1 true b.1) (mf e f g h c d false 0)
def mg (j:Bool) (e:Int) (b:(List dz)) (h:Bool) (f:Int) (c:LN) (d i:Int):=cond (!(j)) (cond (decide ((0:Int)<(b.length:Int))) ((cN (bH.mk c d) 3).bind fun g=>jZ e b h f i (g.1==1) g.2.L g.2.k1) (jZ e b h f i false c d)) (jZ e b h f i false c d)
def mh (g:Bool) (f:Int) (h:(List dz)) (i:Bool) (b:Int) (k:(Int×bH)) (j:Bool) (d:LN) (e:Int):=cond j ((cN (bH.mk d e) (min b 3)).bind fun c=>mg g f h i b c.2.L c.2.k1 (IntKind.i64.wrap ((IntKind.i64.wrap (b-1))-c.1))) (mg g f h i b d e k.1)
def mi (g:Bool) (f:Int) (h:(List dz)) (i:LN) (j:Int) (e:Bool) (c:Int):=(cN (bH.mk i j) c).bind fun b=>cond (!(e)) ((cN (bH.mk b.2.L b.2.k1) 2).bind fun d=>mh g f h e c b (d.1==0) d.2.L d.2.k1) (mh g f h e c b false b.2.L b.2.k1)
def kN (h:Int) (f:Bool) (e:Int) (g:(List dz)) (c:LN) (d:Int) (b:Bool):=cond b (mi f e g c d b 4) (mi f e g c d b h)
def kQ (c:Int) (h:Bool) (d:Int) (f:LN) (g:Int) (e:(List dz)):=cond (decide ((0:Int)<d)) ((cN (bH.mk f g) 3).bind fun b=>cond (b.1==0) (kN c h d e b.2.L b.2.k1 true) (kN c h d e b.2.L b.2.k1 (c==0))) (some (.out (f,g,e)))
def kO (h:LU) (g d:Int) (c:Bool) (e:LN) (f i j:Int):=(cN (bH.mk e f) 4).bind fun b=>(loop (fun s:Int×LN×Int×(List dz)=>kQ d c s.1 s.2.1 s.2.2.1 s.2.2.2) (b.1,b.2.L,b.2.k1,([]:List dz))).bind fun r=>oN h g c i j r.1 r.2.1 r.2.2
def qp (h:LU) (g d:Int) (e:LN) (f:Int) (b:Bool) (j k:Int):=cond b ((cN (bH.mk e f) 6).bind fun c=>(bp ([0,1,2,4,8,16]) c.1).bind fun i=>kO h g d b c.2.L c.2.k1 5 i) (kO h g d b e f j k)
def kP (e:LU) (d:Int) (g:LN) (h f:Int):=(bp e d).bind fun i=>(cN (bH.mk g h) 4).bind fun b=>(cN (bH.mk b.2.L b.2.k1) 6).bind fun c=>qp e d f c.2.L c.2.k1 i.q (IntKind.i64.wrap (1+b.1)) c.1
def kR (h c:LU) (b:Int) (d:LN) (e:Int):=cond (decide (b<(h.length:Int))) ((pO c b).bind fun f=>(bp c b).bind fun g=>cond (!(g.q)) (kP c b d e f.1) (kP c b d e f.2)) (some (.out (c,d,e)))
def m5 (b:LU) (c:LN) (d:Int):=(loop (fun s:LU×Int×LN×Int=>kR b s.1 s.2.1 s.2.2.1 s.2.2.2) (b,0,c,d)).bind fun r=>oM r.1 r.2.1 r.2.2
def qq (c:LU) (f:Int) (d:LN) (e:Int):Option (Fl (LU×Int×LN×Int) (LU×LN×Int)):=cond (decide ((0:Int)<f)) ((cN (bH.mk d e) 3).bind fun b=>gd (cm (c.length+([(aL.mk (b.1==1) ([]) 0 0)]).length)) <| some (.go ((c++([(aL.mk (b.1==1) ([]) 0 0)])),IntKind.i64.wrap (f-1),b.2.L,b.2.k1))) (some (.out (c,d,e)))
def tL (c:bH):=(cN c 7).bind fun b=>(loop (fun s:LU×Int×LN×Int=>qq s.1 s.2.1 s.2.2.1 s.2.2.2) (([]:List aL),IntKind.i64.wrap (2+b.1),b.2.L,b.2.k1)).bind fun r=>m5 r.1 r.2.1 r.2.2
theorem FW (d4:bH) (h:Value) (e:Nat) (ja:L.heap[e]? = some (.cells (bQ d4 h).toArray 83 (0,0))) (hY:¬ T e) (js:aQ (aY.int .i64) (dT T [.box e (bQ d4 h) 83]) L h d4.L) (y:LU×bH) (B:tL d4=some y):bm aO (fun k=>k=e) 25 [pt e 0] L (fun v w'=>∃ (v3:Value) (rJ:bG) (v5:Value),v=v3/\jy ay T L w' [gV v3 rJ,.box e (bQ y.2 v5) 83] 68 v3 rJ y.1/\w'.heap[e]? = some (.cells (bQ y.2 v5).toArray 83 (0,0))/\aQ (aY.int .i64) (dT T [gV v3 rJ,.box e (bQ y.2 v5) 83]) w' v5 y.2.L/\h=v5):=by
 refine wY (c:=_) Tryz.func25 rfl T 132 Tryz.ntmps25 hT rfl ja hY fun a I=>?_;replace I:=I.fS js;unfold tL at B;refine an I fun a I=>?_;refine aK (J:=fun a w=>∃ (t:LU) (ed:LN) (eg:Int) (d:Value) (dc:LV),St L (fun k=>k=e) T 132 [(0,pt e 0),(3,d)] [gV d dc,.box e [h,am eg] 83] [au ay dc t,aT (aY.int .i64) h ed] a w/\m5 t ed eg=some y) ?_ ?_
 ·refine an I fun a I=>?_;obtain⟨ib,hd,B⟩:=bd B;refine wl rfl (dA I rY rfl rfl 0 rfl (ce _ _ (I.drop 0).dlt d4 7 _ _ (I.zb 0 rfl) (I.zi 0 rfl) (aQ.lent (i:=0) rfl I.g0) _ hd) fun _ w C O=>?_);obtain⟨m2,he,hrow,fr,c1⟩:=C;obtain rfl:=he.symm;subst c1;refine⟨(bQ ib.2 h),hrow,fun a I=>?_⟩;replace I:=I.fS (aQ.back (i:=0) rfl fr);refine an I fun a I=>?_;replace I:=I.zn ay 68 (by decide);obtain⟨r1,gu,hMo1⟩:=bd B;refine bz _ (fun s a w=>∃ (ab:LU) (d0:Int) (a4:LN) (a5:Int) (eT:Value) (dk:LV),(ab,d0,a4,a5)=s/\St L (fun k=>k=e) T 132 [(0,pt e 0),(3,eT),(4,am d0)] [gV eT dk,.box e [h,am a5] 83] [au ay dk ab,aT (aY.int .i64) h a4] a w) gu ⟨_,_,_,_,_,_,rfl,I.mt [0,1] [0,1]⟩ ?_;rintro s a w f1 ⟨ab,d0,a4,a5,eT,dk,rfl,I⟩ B hf1;have B:qq ab d0 a4 a5=some f1:=B;unfold qq at B;refine ax ?_;refine an I fun a I=>?_;rcases cd B with⟨hs,B⟩|⟨hs,B⟩
  ·refine an I fun a I=>?_;refine ax ?_;refine an I fun a I=>?_;obtain⟨V,hc,B⟩:=bd B;refine wl rfl (dA I rY rfl rfl 1 rfl (ce _ _ (I.drop 1).dlt (bH.mk a4 a5) 3 _ _ (I.zb 1 rfl) (I.zi 1 rfl) (aQ.lent (i:=1) rfl I.g1) _ hc) fun _ w C O=>?_);obtain⟨m3,he,hrow,fs,c2⟩:=C;obtain rfl:=he.symm;subst c2;refine⟨(bQ V.2 h),hrow,fun a I=>?_⟩;replace I:=I.fS (aQ.back (i:=1) rfl fs);refine an I fun a I=>?_;refine qy I (bE (ps:=[(0,.tmp 22)]) I Lc Ah rfl (us:=[[.bool (V.1==1)]]) ⟨rfl,trivial⟩ (ws:=[.bool (V.1==1),.slice none 0 0,am 0,am 0]) rfl) fun a I=>?_;refine wl rfl (bq (ps:=[(0,.tmp 23)]) I QJ Ah (zl:=[.bool false,.slice none 0 0,am 0,am 0]) (by kernel_rfl) rfl (us:=[[.bool (V.1==1),.slice none 0 0,am 0,am 0]]) ⟨rfl,trivial⟩ (ws:=[.bool (V.1==1),.slice none 0 0,am 0,am 0]) rfl rfl rfl rfl fun k0 a w O I=>?_);replace I:=(I.lit (R:=ay) (us:=[.bool (V.1==1),.slice none 0 0,am 0,am 0]) (xs:=[(aL.mk (V.1==1) ([]) 0 0)]) 0 rfl (by decide) (aN (R:=ay) (x:=(aL.mk (V.1==1) ([]) 0 0)) (⟨_,rfl,aQ.nil_ _ _ _⟩)) rfl rfl).zf (R:=ay) 0 rfl 0 rfl;obtain⟨ht,B⟩:=a6 B;refine wl rfl (cr (R:=ay) (xs:=ab) (ys:=[(aL.mk (V.1==1) ([]) 0 0)]) I QJ (by decide) (by decide) rfl rfl 0 rfl 3 rfl 0 rfl ht rfl fun md kt a w O I=>?_);refine an I fun a I=>?_;exact fin
  refine an I fun a I=>?_;cases B
  have hr:=hf1 _ rfl;subst hr;have B:m5 ab a4 a5=some y:=hMo1;exact fin
 rintro a w ⟨t,ed,eg,d,dc,I,B⟩;unfold m5 at B;refine aK (J:=fun a w=>∃ (eq:LU) (e0:LN) (e2:Int) (c3:LV),St L (fun k=>k=e) T 132 [(3,d)] [gV d c3,.box e [h,am e2] 83] [au ay c3 eq,aT (aY.int .i64) h e0] a w/\oM eq e0 e2=some y) ?_ ?_
 ·refine an I fun a I=>?_;obtain⟨r1,gu,hMo1⟩:=bd B;refine bz _ (fun s a w=>∃ (m:LU) (b:Int) (Q:LN) (S:Int) (g:LV),(m,b,Q,S)=s/\St L (fun k=>k=e) T 132 [(0,pt e 0),(3,d),(27,am (t.length:Int)),(28,am b)] [gV d g,.box e [h,am S] 83] [au ay g m,aT (aY.int .i64) h Q] a w) gu ⟨_,_,_,_,_,rfl,I.mt [0,1] [0,1]⟩ ?_;rintro s a w f1 ⟨m,b,Q,S,g,rfl,I⟩ B hf1;have B:kR t m b Q S=some f1:=B;unfold kR at B;refine an I fun a I=>?_;refine ax ?_;rcases cd B with⟨hu,B⟩|⟨hu,B⟩
  ·refine an I fun a I=>?_;refine aK (J:=fun a w=>∃ (er:LU) (e3:LN) (e4:Int) (dl:LV),St L (fun k=>k=e) T 132 [(0,pt e 0),(3,d),(27,am (t.length:Int)),(28,am b)] [gV d dl,.box e [h,am e4] 83] [au ay dl er,aT (aY.int .i64) h e3] a w/\rO b er e3 e4=some f1) ?_ ?_
   ·refine an I fun a I=>?_;have hL:=I;replace hL:=hL.zf (R:=ay) 0 rfl 0 rfl;obtain⟨m1,ha,B⟩:=bd B;refine kF I S7 (ym _ _ hL.dlt m b _ hL.g0 _ ha) fun w a I=>?_;refine aK (J:=fun a w=>∃ (o:Int),St L (fun k=>k=e) T 132 [(0,pt e 0),(3,d),(5,am b),(7,am o),(27,am (t.length:Int)),(28,am b)] [gV d g,.box e [h,am S] 83] [au ay g m,aT (aY.int .i64) h Q] a w/\kP m b Q S o=some f1) ?_ ?_
    ·refine an I fun a I=>?_;obtain⟨hq,h2,B⟩:=bd B;refine wl rfl (dK (R:=ay) I uM tV rfl rfl 0 rfl 0 rfl h2 rfl fun k2 ll lt l0 hv hw hx a I=>?_);obtain⟨ms,rfl,hg⟩:=hv;replace I:=I.fS hg;refine an I fun a I=>?_;refine qy I (bY (k:=0) I TR 0 rfl hw hx rfl id (us:=[.bool hq.q]) rfl rfl (fun _=>rfl)) fun a I=>?_;exact fz
    rintro a w ⟨o,I,B⟩;unfold kP at B;refine aK (J:=fun a w=>∃ (ag:LN) (ak:Int) (n:Bool) (ex ey:Int) (f:Nat),St L (fun k=>k=e) T 132 [(0,pt e 0),(3,d),(5,am b),(7,am o),(8,pt f 0),(27,am (t.length:Int)),(28,am b)] [gV d g,.box e [h,am ak] 83,.box f [.bool n,.slice none 0 0,am ex,am ey] 68] [au ay g m,aT (aY.int .i64) h ag] a w/\qp m b o ag ak n ex ey=some f1) ?_ ?_
    ·obtain⟨N196,h0⟩:∃ N,N=w.heap.size:=⟨_,rfl⟩;replace I:=I.fact (N3 N196) (uO h0);refine dr [(6,.blk (some e)),(9,.blk (some e)),(12,.new N196)] I fun w hQ I=>?_;refine gE [0,1] I fun a I=>?_;obtain⟨M,h1,B⟩:=bd B;obtain⟨hk,i0,lv,l1,hy,el,hz,hA⟩:=cq (R:=ay) I uM tV 0 rfl 1 rfl h1;obtain⟨mv,rfl,hh⟩:=hy;replace I:=I.fS hh;refine dq 2 I (v:=pt hk i0) (hA rfl rfl) fun a I=>?_;refine gE [3] I fun a I=>?_;refine dq 4 I (l:=[.blk (some e),.blk (some e)]) (v:=.bool M.q) (bY (k:=0) I TR 0 rfl el hz rfl (uf I 0 rfl (Kc el) 1 rfl rfl (by decide) (uf I 0 rfl (Kc el) 1 rfl rfl (by decide) cc)) (us:=[.bool M.q]) rfl rfl (fun _=>rfl)) fun a I=>?_;refine gE [5,8] I fun a I=>?_;obtain⟨z,f5,B⟩:=bd B;refine gO (i:=6) (j:=11) rfl rfl (by kernel_rfl) rfl rfl ?_ ?_
     ·skip;refine id (dA I rY rfl rfl 1 rfl (ce _ _ (I.drop 1).dlt (bH.mk Q S) 4 _ _ (I.zb 1 rfl) (I.zi 1 rfl) (aQ.lent (i:=1) rfl I.g3) _ f5) fun _ w C O=>?_);obtain⟨n0,he,hrow,fu,bl⟩:=C;obtain rfl:=he.symm;subst bl;refine⟨(bQ z.2 h),hrow,fun a I=>⟨qU rfl O od,?_⟩⟩;replace I:=I.fS (aQ.back (i:=1) rfl fu);refine gE [7] I fun a I=>?_;obtain⟨Y,f6,B⟩:=bd B;refine gO (i:=9) (j:=11) rfl rfl (by kernel_rfl) rfl rfl ?_ ?_
      ·skip;refine id (dA I rY rfl rfl 1 rfl (ce _ _ (I.drop 1).dlt (bH.mk z.2.L z.2.k1) 6 _ _ (I.zb 1 rfl) (I.zi 1 rfl) (aQ.lent (i:=1) rfl I.g0) _ f6) fun _ w C O=>?_);obtain⟨n1,he,hrow,fM,bs⟩:=C;obtain rfl:=he.symm;subst bs;refine⟨(bQ Y.2 h),hrow,fun a I=>⟨qU rfl O od,?_⟩⟩;replace I:=I.fS (aQ.back (i:=1) rfl fM);refine dq 10 I (v:=.agg #[.bool M.q,.slice none 0 0,am (IntKind.i64.wrap (1+z.1)),am Y.1]) (bE (ps:=[(0,.tmp 48),(2,.tmp 51),(3,.tmp 53)]) I Lc Ah rfl (us:=[[.bool M.q],[am (IntKind.i64.wrap (1+z.1))],[am Y.1]]) ⟨rfl,⟨rfl,⟨rfl,trivial⟩⟩⟩ (ws:=[.bool M.q,.slice none 0 0,am (IntKind.i64.wrap (1+z.1)),am Y.1]) rfl) fun a I=>?_;have hB:=(I.get 3 rfl:N196<=w.heap.size);refine e1 11 (gH I Ah rfl fun hl hC a w O I=>⟨jx (O),?_⟩);refine iw 12 (.blk (some hl)) _ (by kernel_rfl) (vH (du hB hC)) ?_;refine es 12 I fun w I=>?_;refine eD ?_;exact fin
      skip;have hD:=(I.get 2 rfl:N196<=w.heap.size);refine id (gH I Ah rfl fun hm hE a w O I=>⟨jx (O),?_⟩);refine iw 12 (.blk (some hm)) _ (by kernel_rfl) (vH (du hD hE)) ?_;refine e1 9 (dA I rY rfl rfl 2 rfl (ce _ _ (I.drop 2).dlt (bH.mk z.2.L z.2.k1) 6 _ _ (I.zb 2 rfl) (I.zi 2 rfl) (aQ.lent (i:=2) rfl I.g0) _ f6) fun _ w C O=>?_);obtain⟨ih,he,hrow,b0,P⟩:=C;obtain rfl:=he.symm;subst P;refine⟨(bQ Y.2 h),hrow,fun a I=>⟨qU rfl O od,?_⟩⟩;replace I:=I.fS (aQ.back (i:=2) rfl b0);refine dq 10 I (v:=.agg #[.bool M.q,.slice none 0 0,am (IntKind.i64.wrap (1+z.1)),am Y.1]) (bE (ps:=[(0,.tmp 48),(2,.tmp 51),(3,.tmp 53)]) I Lc Ah rfl (us:=[[.bool M.q],[am (IntKind.i64.wrap (1+z.1))],[am Y.1]]) ⟨rfl,⟨rfl,⟨rfl,trivial⟩⟩⟩ (ws:=[.bool M.q,.slice none 0 0,am (IntKind.i64.wrap (1+z.1)),am Y.1]) rfl) fun a I=>?_;refine es 12 I fun w I=>?_;refine eD ?_;exact fin
     skip;have hF:=(I.get 1 rfl:N196<=w.heap.size);refine id (gH I Ah rfl fun hn hG a w O I=>⟨jx (O),?_⟩);refine iw 12 (.blk (some hn)) _ (by kernel_rfl) (vH (du hF hG)) ?_;refine e1 6 (dA I rY rfl rfl 2 rfl (ce _ _ (I.drop 2).dlt (bH.mk Q S) 4 _ _ (I.zb 2 rfl) (I.zi 2 rfl) (aQ.lent (i:=2) rfl I.g3) _ f5) fun _ w C O=>?_);obtain⟨n2,he,hrow,g2,bt⟩:=C;obtain rfl:=he.symm;subst bt;refine⟨(bQ z.2 h),hrow,fun a I=>⟨qU rfl O od,?_⟩⟩;replace I:=I.fS (aQ.back (i:=2) rfl g2);refine gE [7] I fun a I=>?_;obtain⟨d2,hf,B⟩:=bd B;refine e1 9 (dA I rY rfl rfl 2 rfl (ce _ _ (I.drop 2).dlt (bH.mk z.2.L z.2.k1) 6 _ _ (I.zb 2 rfl) (I.zi 2 rfl) (aQ.lent (i:=2) rfl I.g0) _ hf) fun _ w C O=>?_);obtain⟨ih,he,hrow,b0,P⟩:=C;obtain rfl:=he.symm;subst P;refine⟨(bQ d2.2 h),hrow,fun a I=>⟨qU rfl O od,?_⟩⟩;replace I:=I.fS (aQ.back (i:=2) rfl b0);refine dq 10 I (v:=.agg #[.bool M.q,.slice none 0 0,am (IntKind.i64.wrap (1+z.1)),am d2.1]) (bE (ps:=[(0,.tmp 48),(2,.tmp 51),(3,.tmp 53)]) I Lc Ah rfl (us:=[[.bool M.q],[am (IntKind.i64.wrap (1+z.1))],[am d2.1]]) ⟨rfl,⟨rfl,⟨rfl,trivial⟩⟩⟩ (ws:=[.bool M.q,.slice none 0 0,am (IntKind.i64.wrap (1+z.1)),am d2.1]) rfl) fun a I=>?_;refine es 12 I fun w I=>?_;refine eD ?_;exact fin
    rintro a w ⟨ag,ak,n,ex,ey,f,I,B⟩;unfold qp at B;refine aK (J:=fun a w=>∃ (ch:LN) (ck A D:Int),St L (fun k=>k=e) T 132 [(0,pt e 0),(3,d),(5,am b),(7,am o),(8,pt f 0),(27,am (t.length:Int)),(28,am b)] [gV d g,.box e [h,am ck] 83,.box f [.bool n,.slice none 0 0,am A,am D] 68] [au ay g m,aT (aY.int .i64) h ch] a w/\kO m b o n ch ck A D=some f1) ?_ ?_
    ·refine an I fun a I=>?_;rcases cd B with⟨hH,B⟩|⟨hH,B⟩
     ·refine an I fun a I=>?_;refine dr [(2,.blk (some e)),(6,.blk (some f)),(8,.blk (some f))] I fun w hQ I=>?_;refine gE [1,5] I fun a I=>?_;obtain⟨gx,f4,B⟩:=bd B;refine gO (i:=0) (j:=2) rfl rfl (by kernel_rfl) rfl rfl ?_ ?_
      ·skip;refine id (bq (ps:=[(0,.const (am 0)),(1,.const (am 1)),(2,.const (am 2)),(3,.const (am 4)),(4,.const (am 8)),(5,.const (am 16))]) I Mn Uc (zl:=[am 0,am 0,am 0,am 0,am 0,am 0]) (by kernel_rfl) rfl (us:=[[am 0],[am 1],[am 2],[am 4],[am 8],[am 16]]) ⟨rfl,⟨rfl,⟨rfl,⟨rfl,⟨rfl,⟨rfl,trivial⟩⟩⟩⟩⟩⟩ (ws:=[am 0,am 1,am 2,am 4,am 8,am 16]) rfl rfl rfl rfl fun k3 a w O I=>⟨jx (O),?_⟩);refine e1 2 (dA I rY rfl rfl 2 rfl (ce _ _ (I.drop 2).dlt (bH.mk ag ak) 6 _ _ (I.zb 2 rfl) (I.zi 2 rfl) (aQ.lent (i:=2) rfl I.g1) _ f4) fun _ w C O=>?_);obtain⟨n6,he,hrow,g4,bi⟩:=C;obtain rfl:=he.symm;subst bi;refine⟨(bQ gx.2 h),hrow,fun a I=>⟨qU rfl O od,?_⟩⟩;replace I:=((I.fS (aQ.back (i:=2) rfl g4)).lit (R:=(aY.int .i64)) (us:=[am 0,am 1,am 2,am 4,am 8,am 16]) (xs:=[0,1,2,4,8,16]) 0 rfl (by decide) ((aN (R:=(aY.int .i64)) (x:=0) rfl).append ((aN (R:=(aY.int .i64)) (x:=1) rfl).append ((aN (R:=(aY.int .i64)) (x:=2) rfl).append ((aN (R:=(aY.int .i64)) (x:=4) rfl).append ((aN (R:=(aY.int .i64)) (x:=8) rfl).append (aN (R:=(aY.int .i64)) (x:=16) rfl)))))) rfl rfl).zf (R:=(aY.int .i64)) 0 rfl 0 rfl;obtain⟨a9,Z,B⟩:=bd B;obtain⟨af,b2,fd,ao,av,I⟩:=km (R:=(aY.int .i64)) I Ln LG 0 rfl Z;obtain rfl:=ao;refine dq 3 I (v:=pt af b2) (av rfl rfl) fun a I=>?_;refine dq 4 I (l:=[.blk (some f)]) (v:=am a9) (x5 (k:=0) I LG 0 rfl rfl (JV 2 rfl rfl CE) (us:=[am a9]) rfl rfl (fun _=>rfl)) fun a I=>?_;refine es 6 I fun w I=>?_;refine gE [7] I fun a I=>?_;refine es 8 I fun w I=>?_;refine eD ?_;exact fin
      skip;refine id (dA I rY rfl rfl 1 rfl (ce _ _ (I.drop 1).dlt (bH.mk ag ak) 6 _ _ (I.zb 1 rfl) (I.zi 1 rfl) (aQ.lent (i:=1) rfl I.g1) _ f4) fun _ w C O=>?_);obtain⟨nd,he,hrow,g5,bg⟩:=C;obtain rfl:=he.symm;subst bg;refine⟨(bQ gx.2 h),hrow,fun a I=>⟨qU rfl O od,?_⟩⟩;replace I:=I.fS (aQ.back (i:=1) rfl g5);refine gO (i:=0) (j:=6) rfl rfl (by kernel_rfl) rfl rfl ?_ ?_
      ·skip;refine id (bq (ps:=[(0,.const (am 0)),(1,.const (am 1)),(2,.const (am 2)),(3,.const (am 4)),(4,.const (am 8)),(5,.const (am 16))]) I Mn Uc (zl:=[am 0,am 0,am 0,am 0,am 0,am 0]) (by kernel_rfl) rfl (us:=[[am 0],[am 1],[am 2],[am 4],[am 8],[am 16]]) ⟨rfl,⟨rfl,⟨rfl,⟨rfl,⟨rfl,⟨rfl,trivial⟩⟩⟩⟩⟩⟩ (ws:=[am 0,am 1,am 2,am 4,am 8,am 16]) rfl rfl rfl rfl fun ho a w O I=>⟨jx (O),?_⟩);replace I:=(I.lit (R:=(aY.int .i64)) (us:=[am 0,am 1,am 2,am 4,am 8,am 16]) (xs:=[0,1,2,4,8,16]) 0 rfl (by decide) ((aN (R:=(aY.int .i64)) (x:=0) rfl).append ((aN (R:=(aY.int .i64)) (x:=1) rfl).append ((aN (R:=(aY.int .i64)) (x:=2) rfl).append ((aN (R:=(aY.int .i64)) (x:=4) rfl).append ((aN (R:=(aY.int .i64)) (x:=8) rfl).append (aN (R:=(aY.int .i64)) (x:=16) rfl)))))) rfl rfl).zf (R:=(aY.int .i64)) 0 rfl 0 rfl;obtain⟨a9,Z,B⟩:=bd B;obtain⟨af,b2,fd,ao,av,I⟩:=km (R:=(aY.int .i64)) I Ln LG 0 rfl Z;obtain rfl:=ao;refine dq 3 I (v:=pt af b2) (av rfl rfl) fun a I=>?_;refine dq 4 I (l:=[.blk (some f)]) (v:=am a9) (x5 (k:=0) I LG 0 rfl rfl (JV 2 rfl rfl CE) (us:=[am a9]) rfl rfl (fun _=>rfl)) fun a I=>?_;refine es 6 I fun w I=>?_;refine gE [7] I fun a I=>?_;refine es 8 I fun w I=>?_;refine eD ?_;exact fin
      skip;refine id (FQ I rfl rfl (us:=[am 5]) rfl LG 2 rfl rfl rfl (oc rfl on) fun w O I=>⟨qU rfl O od,?_⟩);refine e1 0 (bq (ps:=[(0,.const (am 0)),(1,.const (am 1)),(2,.const (am 2)),(3,.const (am 4)),(4,.const (am 8)),(5,.const (am 16))]) I Mn Uc (zl:=[am 0,am 0,am 0,am 0,am 0,am 0]) (by kernel_rfl) rfl (us:=[[am 0],[am 1],[am 2],[am 4],[am 8],[am 16]]) ⟨rfl,⟨rfl,⟨rfl,⟨rfl,⟨rfl,⟨rfl,trivial⟩⟩⟩⟩⟩⟩ (ws:=[am 0,am 1,am 2,am 4,am 8,am 16]) rfl rfl rfl rfl fun ho a w O I=>⟨jx (O),?_⟩);replace I:=(I.lit (R:=(aY.int .i64)) (us:=[am 0,am 1,am 2,am 4,am 8,am 16]) (xs:=[0,1,2,4,8,16]) 0 rfl (by decide) ((aN (R:=(aY.int .i64)) (x:=0) rfl).append ((aN (R:=(aY.int .i64)) (x:=1) rfl).append ((aN (R:=(aY.int .i64)) (x:=2) rfl).append ((aN (R:=(aY.int .i64)) (x:=4) rfl).append ((aN (R:=(aY.int .i64)) (x:=8) rfl).append (aN (R:=(aY.int .i64)) (x:=16) rfl)))))) rfl rfl).zf (R:=(aY.int .i64)) 0 rfl 0 rfl;obtain⟨a9,Z,B⟩:=bd B;obtain⟨af,b2,fd,ao,av,I⟩:=km (R:=(aY.int .i64)) I Ln LG 0 rfl Z;obtain rfl:=ao;refine dq 3 I (v:=pt af b2) (av rfl rfl) fun a I=>?_;refine gE [4,7] I fun a I=>?_;refine es 8 I fun w I=>?_;refine eD ?_;exact fin
     exact fz
    rintro a w ⟨ch,ck,A,D,I,B⟩;unfold kO at B;refine aK (J:=fun a w=>∃ (e5:LN) (e6:Int) (d1:(List dz)) (d3:Value) (dn:LV),St L (fun k=>k=e) T 132 [(0,pt e 0),(3,d),(5,am b),(8,pt f 0),(27,am (t.length:Int)),(28,am b)] [gV d g,.box e [h,am e6] 83,zN d3 dn,.box f [.bool n,d3,am A,am D] 68] [au ay g m,aT (aY.int .i64) h e5,au dV dn d1] a w/\oN m b n A D e5 e6 d1=some f1) ?_ ?_
    ·refine an I fun a I=>?_;obtain⟨i9,h9,B⟩:=bd B;refine wl rfl (dA I rY rfl rfl 1 rfl (ce _ _ (I.drop 1).dlt (bH.mk ch ck) 4 _ _ (I.zb 1 rfl) (I.zi 1 rfl) (aQ.lent (i:=1) rfl I.g1) _ h9) fun _ w C O=>?_);obtain⟨ng,he,hrow,g6,b4⟩:=C;obtain rfl:=he.symm;subst b4;refine⟨(bQ i9.2 h),hrow,fun a I=>?_⟩;replace I:=I.fS (aQ.back (i:=1) rfl g6);refine an I fun a I=>?_;replace I:=I.zn dV 70 (by decide);obtain⟨r2,jb,hMo2⟩:=bd B;refine bz _ (fun s a w=>∃ (r:Int) (a2:LN) (a3:Int) (u:(List dz)) (F:Value) (E:LV),(r,a2,a3,u)=s/\St L (fun k=>k=e) T 132 [(0,pt e 0),(3,d),(5,am b),(7,am o),(8,pt f 0),(9,am r),(27,am (t.length:Int)),(28,am b)] [gV d g,.box e [h,am a3] 83,zN F E,.box f [.bool n,F,am A,am D] 68] [au ay g m,aT (aY.int .i64) h a2,au dV E u] a w) jb ⟨_,_,_,_,_,_,rfl,I.mt [1,2,0,3] [2,1,0]⟩ ?_;rintro s a w f2 ⟨r,a2,a3,u,F,E,rfl,I⟩ B hf2;have B:kQ o n r a2 a3 u=some f2:=B;unfold kQ at B;refine ax ?_;refine an I fun a I=>?_;rcases cd B with⟨hI,B⟩|⟨hI,B⟩
     ·refine an I fun a I=>?_;refine aK (J:=fun a w=>∃ (e7:LN) (e8:Int) (et:(List dz)) (eX:Value) (ds:LV),St L (fun k=>k=e) T 132 [(0,pt e 0),(3,d),(5,am b),(7,am o),(8,pt f 0),(9,am r),(27,am (t.length:Int)),(28,am b)] [gV d g,.box e [h,am e8] 83,zN eX ds,.box f [.bool n,eX,am A,am D] 68] [au ay g m,aT (aY.int .i64) h e7,au dV ds et] a w/\rP r e7 e8 et=some f2) ?_ ?_
      ·refine an I fun a I=>?_;refine aK (J:=fun a w=>∃ (a0:LN) (a1:Int) (p:Bool) (G:Nat),St L (fun k=>k=e) T 132 [(0,pt e 0),(3,d),(5,am b),(7,am o),(8,pt f 0),(9,am r),(10,pt G 0),(27,am (t.length:Int)),(28,am b)] [gV d g,.box e [h,am a1] 83,zN F E,.box f [.bool n,F,am A,am D] 68,.box G [.bool p,.bool false,am 0,am 0] 70] [au ay g m,aT (aY.int .i64) h a0,au dV E u] a w/\kN o n r u a0 a1 p=some f2) ?_ ?_
       ·refine an I fun a I=>?_;obtain⟨i5,h8,B⟩:=bd B;refine wl rfl (dA I rY rfl rfl 1 rfl (ce _ _ (I.drop 1).dlt (bH.mk a2 a3) 3 _ _ (I.zb 1 rfl) (I.zi 1 rfl) (aQ.lent (i:=1) rfl I.g1) _ h8) fun _ w C O=>?_);obtain⟨nl,he,hrow,g7,bb⟩:=C;obtain rfl:=he.symm;subst bb;refine⟨(bQ i5.2 h),hrow,fun a I=>?_⟩;replace I:=I.fS (aQ.back (i:=1) rfl g7);refine an I fun a I=>?_;rcases cd B with⟨hJ,B⟩|⟨hJ,B⟩
        ·refine an I fun a I=>?_;refine qy I (bE (ps:=[(0,.tmp 76)]) I OV BV rfl (us:=[[.bool true]]) ⟨rfl,trivial⟩ (ws:=[.bool true,.bool false,am 0,am 0]) rfl) fun a I=>?_;refine ka I BV fun k4 lb a w O I=>?_;exact fz
        refine an I fun a I=>?_;refine qy I (bE (ps:=[(0,.tmp 76)]) I OV BV rfl (us:=[[.bool (o==0)]]) ⟨rfl,trivial⟩ (ws:=[.bool (o==0),.bool false,am 0,am 0]) rfl) fun a I=>?_;refine ka I BV fun k5 le a w O I=>?_;exact fz
       rintro a w ⟨a0,a1,p,G,I,B⟩;unfold kN at B;refine an I fun a I=>?_;refine aK (J:=fun a w=>∃ (K:Int),St L (fun k=>k=e) T 132 [(0,pt e 0),(3,d),(5,am b),(7,am o),(8,pt f 0),(9,am r),(10,pt G 0),(11,am K),(27,am (t.length:Int)),(28,am b)] [gV d g,.box e [h,am a1] 83,zN F E,.box f [.bool n,F,am A,am D] 68,.box G [.bool p,.bool false,am 0,am 0] 70] [au ay g m,aT (aY.int .i64) h a0,au dV E u] a w/\mi n r u a0 a1 p K=some f2) ?_ ?_
       ·exact fz
       rintro a w ⟨K,I,B⟩;unfold mi at B;refine an I fun a I=>?_;obtain⟨b3,h5,B⟩:=bd B;refine wl rfl (dA I rY rfl rfl 1 rfl (ce _ _ (I.drop 1).dlt (bH.mk a0 a1) K _ _ (I.zb 1 rfl) (I.zi 1 rfl) (aQ.lent (i:=1) rfl I.g1) _ h5) fun _ w C O=>?_);obtain⟨nm,he,hrow,g8,b5⟩:=C;obtain rfl:=he.symm;subst b5;refine⟨(bQ b3.2 h),hrow,fun a I=>?_⟩;replace I:=I.fS (aQ.back (i:=1) rfl g8);refine go I fun a w I=>?_;refine aK (J:=fun a w=>∃ (c9:LN) (ca H:Int),St L (fun k=>k=e) T 132 [(0,pt e 0),(3,d),(5,am b),(7,am o),(8,pt f 0),(9,am r),(10,pt G 0),(11,am K),(27,am (t.length:Int)),(28,am b)] [gV d g,.box e [h,am ca] 83,zN F E,.box f [.bool n,F,am A,am D] 68,.box G [.bool p,.bool false,am H,am 0] 70] [au ay g m,aT (aY.int .i64) h c9,au dV E u] a w/\mg n r u p K c9 ca H=some f2) ?_ ?_
       ·refine aK (J:=fun a w=>∃ (ek:Bool) (cb:LN) (cf:Int),St L (fun k=>k=e) T 132 [(0,pt e 0),(3,d),(5,am b),(7,am o),(8,pt f 0),(9,am r),(10,pt G 0),(11,am K),(27,am (t.length:Int)),(28,am b),(92,.bool ek)] [gV d g,.box e [h,am cf] 83,zN F E,.box f [.bool n,F,am A,am D] 68,.box G [.bool p,.bool false,am b3.1,am 0] 70] [au ay g m,aT (aY.int .i64) h cb,au dV E u] a w/\mh n r u p K b3 ek cb cf=some f2) ?_ ?_
        ·refine an I fun a I=>?_;rcases cd B with⟨fl,B⟩|⟨fl,B⟩
         ·refine an I fun a I=>?_;obtain⟨i4,h7,B⟩:=bd B;refine wg I rfl rfl rfl fl (dA I rY rfl rfl 1 rfl (ce _ _ (I.drop 1).dlt (bH.mk b3.2.L b3.2.k1) 2 _ _ (I.zb 1 rfl) (I.zi 1 rfl) (aQ.lent (i:=1) rfl I.g0) _ h7) fun _ w C O=>?_);obtain⟨no,he,hrow,g9,b9⟩:=C;obtain rfl:=he.symm;subst b9;refine⟨(bQ i4.2 h),hrow,fun a I=>?_⟩;replace I:=I.fS (aQ.back (i:=1) rfl g9);exact fz
         exact fz
        rintro a w ⟨ek,cb,cf,I,B⟩;unfold mh at B;rcases cd B with⟨hK,B⟩|⟨hK,B⟩
        ·refine an I fun a I=>?_;refine qy I (Qi I rfl rfl) fun a I=>?_;obtain⟨i3,h6,B⟩:=bd B;refine wl rfl (dA I rY rfl rfl 1 rfl (ce _ _ (I.drop 1).dlt (bH.mk cb cf) (min K 3) _ _ (I.zb 1 rfl) (I.zi 1 rfl) (aQ.lent (i:=1) rfl I.g1) _ h6) fun _ w C O=>?_);obtain⟨ns,he,hrow,gb,b8⟩:=C;obtain rfl:=he.symm;subst b8;refine⟨(bQ i3.2 h),hrow,fun a I=>?_⟩;replace I:=I.fS (aQ.back (i:=1) rfl gb);exact fz
        exact fz
       rintro a w ⟨c9,ca,H,I,B⟩;unfold mg at B;refine aK (J:=fun a w=>∃ (ea:LN) (eb:Int) (W:Bool) (X:Int),St L (fun k=>k=e) T 132 [(0,pt e 0),(3,d),(5,am b),(7,am o),(8,pt f 0),(9,am r),(10,pt G 0),(27,am (t.length:Int)),(28,am b)] [gV d g,.box e [h,am eb] 83,zN F E,.box f [.bool n,F,am A,am D] 68,.box G [.bool p,.bool W,am H,am X] 70] [au ay g m,aT (aY.int .i64) h ea,au dV E u] a w/\mf r u p H ea eb W X=some f2) ?_ ?_
       ·refine aK (J:=fun a w=>∃ (ei:Bool) (c4:LN) (c5:Int),St L (fun k=>k=e) T 132 [(0,pt e 0),(3,d),(5,am b),(7,am o),(8,pt f 0),(9,am r),(10,pt G 0),(11,am K),(27,am (t.length:Int)),(28,am b),(114,.bool ei)] [gV d g,.box e [h,am c5] 83,zN F E,.box f [.bool n,F,am A,am D] 68,.box G [.bool p,.bool false,am H,am 0] 70] [au ay g m,aT (aY.int .i64) h c4,au dV E u] a w/\jZ r u p K H ei c4 c5=some f2) ?_ ?_
        ·refine an I fun a I=>?_;rcases cd B with⟨hM,B⟩|⟨hM,B⟩
         ·refine an I fun a I=>?_;rcases cd B with⟨fn,B⟩|⟨fn,B⟩
          ·refine an I fun a I=>?_;obtain⟨i2,h4,B⟩:=bd B;refine wg I rfl rfl rfl fn (dA I rY rfl rfl 1 rfl (ce _ _ (I.drop 1).dlt (bH.mk c9 ca) 3 _ _ (I.zb 1 rfl) (I.zi 1 rfl) (aQ.lent (i:=1) rfl I.g1) _ h4) fun _ w C O=>?_);obtain⟨nv,he,hrow,gi,b7⟩:=C;obtain rfl:=he.symm;subst b7;refine⟨(bQ i2.2 h),hrow,fun a I=>?_⟩;replace I:=I.fS (aQ.back (i:=1) rfl gi);exact fz
          exact fz
         exact fz
        rintro a w ⟨ei,c4,c5,I,B⟩;unfold jZ at B;rcases cd B with⟨hN,B⟩|⟨hN,B⟩
        ·refine an I fun a I=>?_;obtain⟨i1,h3,B⟩:=bd B;refine wl rfl (dA I rY rfl rfl 1 rfl (ce _ _ (I.drop 1).dlt (bH.mk c4 c5) K _ _ (I.zb 1 rfl) (I.zi 1 rfl) (aQ.lent (i:=1) rfl I.g1) _ h3) fun _ w C O=>?_);obtain⟨o1,he,hrow,gs,b6⟩:=C;obtain rfl:=he.symm;subst b6;refine⟨(bQ i1.2 h),hrow,fun a I=>?_⟩;replace I:=I.fS (aQ.back (i:=1) rfl gs);exact fz
        refine an I fun a I=>?_;exact fin
       rintro a w ⟨ea,eb,W,X,I,B⟩;unfold mf at B;refine an I fun a I=>?_;refine wl rfl (bq (ps:=[(0,.tmp 122)]) I Ox BV (zl:=[.bool false,.bool false,am 0,am 0]) (by kernel_rfl) rfl (us:=[[.bool p,.bool W,am H,am X]]) ⟨rfl,trivial⟩ (ws:=[.bool p,.bool W,am H,am X]) rfl rfl rfl rfl fun kk a w O I=>?_);replace I:=(I.lit (R:=dV) (us:=[.bool p,.bool W,am H,am X]) (xs:=[(dz.mk p W H X)]) 0 rfl (by decide) (aN (R:=dV) (x:=(dz.mk p W H X)) rfl) rfl rfl).zf (R:=dV) 0 rfl 0 rfl;obtain⟨hP,B⟩:=a6 B;refine wl rfl (cr (R:=dV) (xs:=u) (ys:=[(dz.mk p W H X)]) I Ox (by decide) (by decide) rfl rfl 2 rfl 4 rfl 0 rfl hP rfl fun o2 l2 a w O I=>?_);exact fz
      rintro a w ⟨e7,e8,et,eX,ds,I,B⟩;unfold rP at B;exact fz
     refine an I fun a I=>?_;cases B
     have hr:=hf2 _ rfl;subst hr;have B:oN m b n A D a2 a3 u=some f1:=hMo2;exact fin
    rintro a w ⟨e5,e6,d1,d3,dn,I,B⟩;unfold oN at B;refine an I fun a I=>?_;obtain⟨hp,f3,B⟩:=bd B;refine wl rfl (dK (R:=ay) I uM tV rfl rfl 0 rfl 0 rfl f3 rfl fun ks ls lz l4 hV hW hX a I=>?_);obtain⟨ii,rfl,hi⟩:=hV;replace I:=(I.fS hi).zf (R:=dV) 2 rfl 3 rfl;refine wl rfl (ig (R:=ay) (k:=0) (cs:=(zk hp ii)) (us:=[.bool n,d3,am A,am D]) (x':=(aL.mk n d1 A D)) I rfl rfl rfl tV 0 rfl 2 rfl hW hX f3 (⟨_,rfl,I.g1⟩) rfl rfl (⟨_,rfl,I.g0⟩) fun la w O I=>?_);exact fz
   rintro a w ⟨er,e3,e4,dl,I,B⟩;unfold rO at B;exact fz
  refine an I fun a I=>?_;cases B
  have hr:=hf1 _ rfl;subst hr;have B:oM m Q S=some y:=hMo1;exact fin
 rintro a w ⟨eq,e0,e2,c3,I,B⟩;unfold oM at B;refine an I fun a I=>?_;cases B
 refine aG I rfl (aF I rfl aH) ?_;exact⟨d,c3,h,rfl,I.zm ⟨.inr (az (i:=0) rfl),⟨.inr (az (i:=1) rfl),trivial⟩⟩ 0 rfl 0 rfl 1 rfl (by decide),I.zb 1 rfl,(aQ.up ⟨.inr (az (i:=0) rfl),⟨.inr (az (i:=1) rfl),trivial⟩⟩ I.g1),rfl⟩
end
end
end Go.Proofs.YtllbbcgnnoonoaaGreatDoor
