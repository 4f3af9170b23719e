/- Texts of the proof, joined (1). -/
import Derived.Test.YtcpplgcgcbihoaaGreatDoorB0
import Derived.Maps.RangeRun
import Derived.Test.YtcpplgcgcbihoaaGreatDoorProg
import Derived.Lib.SliceRun
import Derived.Lib.AppendZerosOnto
import Derived.Lib.Overlaps
import Derived.Laws.Externs
import Derived.Shelf.SlSortCmp.WholeK
import Derived.Deep.RegionHeld3
set_option linter.unusedVariables false
set_option linter.unusedSimpArgs false
set_option linter.unusedSectionVars false
namespace Go.Proofs.YtcpplgcgcbihoaaGreatDoor
section
open Go.RowKit
variable {pos:String} {af:Array Edge} {g:Option (Nat×Bool)}
def Pt (f g:cL):cL:=⟨fun T w=>f.p T w/\g.p T w,fun h k n=>⟨f.keep h.1 k n,g.keep h.2 k n⟩⟩
def OB:cL:=⟨fun _ _=>True,fun _ _ _=>trivial⟩
section
variable {P:Program} {W:World} {M T E:Nat->Prop} {n:Nat} {G G':List (Nat×Value)} {D D' D0 Dr rs:List cS} {F F':List cL} {a:Act} {w w':World} {K:Act->World->Prop}
theorem xe {d:Option Nat} {f:Nat} {caps:Array Operand} {ty:TypeId} {vs:bK} (I:St W M T n G D F a w) (hv:evs G caps.toList=some vs) :
  Ye P ⟨d,.makeFunc (.func f) #[] caps,ty,pos,af,g⟩ a E w (.func (.func f) #[] vs.toArray) :=
 Ye.of fun w=>by
  have h1:(caps.map a.eval)=vs.toArray:=by
   apply HG.1;rw [JJ,I.evs hv]
  simp [execOp,Instr.makeFunc,h1]
theorem St.zx {b:Nat} {cs:bK} {t:TypeId} (h:St W M T n G D F a w) (i:Nat) (hi:D[i]? = some (.box b cs t)):St W M T n G (D.eraseIdx i) (fb b 0 cs::F) a w:=by
 have hlt:=(cu.1 hi).1;have hD:=(cu.1 hi).2;have ho:w.heap[b]? = some (.cells cs.toArray t (0,0)):=h.own _ (aD hi);refine (h.drop i).fact _ ⟨fun hT=>?_,(Ef.1 ho).1,fun j u hu=>?_⟩
 ·rcases hT with hT | ⟨s,hs,hT⟩
  ·exact (h.free _ (aD hi) b rfl).1 hT
  ·obtain⟨z,hz⟩:=nP.1 hs;rw [DI] at hz;split at hz
   ·rename_i hzi;have hzl:=(cu.1 hz).1;have:=gC.1 h.apart z i hzl hlt hzi b (by rw [(cu.1 hz).2]; exact hT);rw [hD] at this; exact this rfl
   ·rename_i hzi;have hzl:=(cu.1 hz).1;have:=gC.1 h.apart i (z+1) hlt hzl (by omega) b (by rw [hD]; rfl);rw [(cu.1 hz).2] at this; exact this hT
 ·rw [pa,(Eh.of ho).cell];simpa using hu
theorem pv.mid {e:TypeId} {sz:Nat} {v:Value} {cl us:bK} {B:Nat} (h:pv w B e sz v cl) (o:Nat) (hl:o+us.length<=cl.length) (hpos:0<us.length) :
  ∃ g off m c cs,v = .slice (some ⟨g,off,none⟩) m c/\cl.length=m*sz/\m<=c/\Eh w g cs e/\off+c*sz<=cs.size/\pv (w.setCells g (off+o) us) B e sz v (pr cl o us)/\(∀ j,j<us.length->(w.cell? ⟨g,off+o+j,none⟩).isSome=true)/\(∀ j,j<us.length->w.frozen? ⟨g,off+o+j,none⟩=false):=by
 rcases h with⟨_,rfl⟩|⟨g,off,m,c,cs,rfl,h1,hb,hg,hmc,hc,hsz,hcs⟩
 ·simp only [sg] at hl; omega
 have hmz:m*sz<=c*sz:=nY _ hmc;refine⟨g,off,m,c,cs,rfl,h1,hmc,hg,hsz,?_,fun j hj=>?_,fun j hj=>hg.free (by omega)⟩
 ·obtain⟨fz,hg1,hfz⟩:=hg;obtain⟨cs',a1,a2,a3,a4⟩:=nq g e fz us (off+o) w cs hg1;refine .inr ⟨g,off,m,c,cs',rfl,?_,hb,⟨fz,a1,by rw [a2]; exact hfz⟩,hmc,hc,by rw [a2]; exact hsz,fun j u hu=>?_⟩
  ·unfold pr; simp only [bk,eS,mO]; omega
  ·rw [Aj _ _ _ _ hl] at hu;split at hu
   ·rename_i hj;have:=a4 (by omega) _ u hu;rwa [show off+o+(j-o)=off+j by omega] at this
   ·rename_i hj;rw [a3 _ (by omega)]; exact hcs j u hu
 ·rw [hg.cell,BT (by omega)]; rfl
theorem aY.mid {α:Type} {R:aO α} {T:Nat->Prop} {w:World} {cl us:bK} {xs ys:List α} (h:aY R T w cl xs) (k:aY R T w us ys) {lo:Nat} (hl:lo+ys.length<=xs.length):aY R T w (pr cl (lo*R.size) us) (xs.take lo++ys++xs.drop (lo+ys.length)):=by
 have h1:=h.cut (bY lo) (by omega);have h2:=h.cut hl (cm _);rw [Nat.zero_mul,yh,yh] at h1;rw [fW,Ba (by rw [h.1]; exact cm _)] at h2;have h3:=(h1.append k).append h2;unfold pr;rw [k.1,<- jL];exact h3
theorem cL.dn (f:cL) {T:Nat->Prop} {w:World} (h:f.p T w):f.p (dT T []) w:=f.keep h (aj _ _) fun k O=>by
 rcases O with O | ⟨r,hr,_⟩
 ·exact .inl O
 ·cases hr
end
section
variable {κ ν:Type} {P:Program} {W:World} {M T E:Nat->Prop} {n:Nat} {G G':List (Nat×Value)} {D D':List cS} {F F':List cL} {a:Act} {w w':World} {K:Act->World->Prop}
variable {kt et:TypeId} {RK:aO κ} {ak:Bool} {RV:aO ν} {av:Bool} {q:κ->κ->Bool} {b clock:Nat} {es:Array MapEntry} {xs:List (κ×ν)}
theorem P5 {t t2 ty:TypeId} {X Y:Operand} (I:St W M T n G D F a w) (ht:Kh P t=some (kt,et)) (hK:AE P kt RK ak q) (i:Nat) (hi:D[i]? = some (.obj b (.map es clock))) (j:Nat) (hj:F[j]? = some (rD RK ak RV av es xs))
  {c:bK} {key:κ} (hc:RK.rel (dT T D) w c key) (hX:ev G X=some (.map (some b))) (hY:ev G Y=some (bL ak c))
  (k:∀ es' ck' w',Kt (fun j=>j=b) w w'->St W M T n G (D.set i (.obj b (.map es' ck'))) (rD RK ak RV av es' (ui q key xs)::F) a w'->K a w'):sA P ⟨none,.call { callee:=.builtin .delete,args:=#[X,Y],argTypes:=#[t,t2] },ty,pos,af,g⟩ a w K:=by
 have hr:w.heap[b]? = some (.map es clock):=I.own _ (aD hi);have hm:=I.mapOk j hj;obtain⟨hl,hkeys⟩:=xu hm;have hf:=tf hK hc w hl hkeys;have hch:=hK.check es.isEmpty _ _ w _ _ hc;have fin:∀ es' ck',(Builtin.delete_ #[t,t2] ty #[.map (some b),bL ak c]).run P w = .ok (.tuple #[]) { w with heap:=w.heap.setIfInBounds b (.map es' ck') }->co RK ak RV av (dT T D) w es' (ui q key xs)->sA P ⟨none,.call { callee:=.builtin .delete,args:=#[X,Y],argTypes:=#[t,t2] },ty,pos,af,g⟩ a w K:=fun es' ck' hrun hok=>by
  refine BK (w':={ w with heap:=w.heap.setIfInBounds b (.map es' ck') }) (v:=.tuple #[]) (by simp [execOp,resolve,invoke,builtin,I.ev hX,I.ev hY,hrun]) (k es' ck' _ ((sv hr).mono fun j hj=>(cC hj).symm) ?_);exact (I.fact (rD RK ak RV av es' _) hok).turn hi (sv hr) (r':=.obj b (.map es' ck')) (si hr).1 fun j hj=>.inl hj
 cases hp:vx q key xs with
 | none =>
  obtain⟨_,_,g3⟩:=sY hp;rw [hp] at hf;refine fin es clock ?_ (by rw [g3]; exact hm);simp [Builtin.delete_,run_underlying (oI ht),yE hr,hch,hf,BU,FY _ hr]
 | some p =>
  obtain⟨x0,hx0,hq0,_,_,g3⟩:=sZ hp;have hpi:p<es.size:=by rw [hm.1]; exact (cu.1 hx0).1
  have he0:es[p]? = some es[p]:=BT hpi;rw [hp] at hf;have hat:BU es.toList 0 (some p)=some (p,es[p].val):=by simp [BU,he0]
  rw [hat] at hf;refine fin (es.eraseIdxIfInBounds p) clock ?_ ⟨?_,fun z e x he hx=>?_⟩
  ·simp [Builtin.delete_,run_underlying (oI ht),yE hr,hch,hf,FY _ hr]
  ·rw [g3];have h1:(es.eraseIdxIfInBounds p).size=es.size-1:=by simp [Array.eraseIdxIfInBounds,hpi]
   rw [h1,List.length_eraseIdx,if_pos (by rw [<- hm.1]; exact hpi),hm.1]
  ·rw [g3,DI] at hx;have he2:(es.eraseIdxIfInBounds p)[z]? = if z<p then es[z]? else es[z+1]?:=by
    simp only [Array.eraseIdxIfInBounds,hpi,dif_pos];rw [Array.getElem?_eraseIdx]
   rw [he2] at he;split at hx
   ·rename_i hz;rw [if_pos hz] at he;exact hm.2 z e x he hx
   ·rename_i hz;rw [if_neg hz] at he;exact hm.2 (z+1) e x he hx
end
end
section
open Go.RowKit
section
variable {P:Program} {W:World} {M T E:Nat->Prop} {n:Nat} {G G':List (Nat×Value)} {D D' D0 Dr rs:List cS} {F F':List cL} {a:Act} {w w':World} {K:Act->World->Prop}
theorem St.notD {r:cS} (h:St W M T n G D F a w) (i:Nat) (hi:D[i]? = some r) {k:Nat} (O:r.dom k):¬ dT T (D.eraseIdx i) k:=by
 have hlt:=(cu.1 hi).1;have hD:=(cu.1 hi).2;rintro (hT | ⟨s,hs,hT⟩)
 ·exact (h.free _ (aD hi) k O).1 hT
 ·obtain⟨z,hz⟩:=nP.1 hs;rw [DI] at hz;split at hz
  ·rename_i hzi;have hzl:=(cu.1 hz).1;have:=gC.1 h.apart z i hzl hlt hzi k (by rw [(cu.1 hz).2]; exact hT);rw [hD] at this; exact this O
  ·rename_i hzi;have hzl:=(cu.1 hz).1;have:=gC.1 h.apart i (z+1) hlt hzl (by omega) k (by rw [hD]; exact O);rw [(cu.1 hz).2] at this; exact this hT
end
end
section
open Go.RowKit
section
variable {α ν β:Type}
variable {N}
variable {P:Program} {W:World} {M T E:Nat->Prop} {n:Nat} {G G':List (Nat×Value)} {D D' D0 Dr rs:List cS} {F F':List cL} {a:Act} {w w':World} {K:Act->World->Prop}
end
end
section
open Go.RowKit
variable {pos:String} {af:Array Edge} {g:Option (Nat×Bool)}
def Te (P:Program) (t:TypeId):Option (Nat×TypeId):=match P.underlying t with
 | some (.array n e)=>some (n,e)
 | _=>none
theorem Ni {P:Program} {t e:TypeId} {n:Nat} (h:Te P t=some (n,e)):P.underlying t=some (.array n e):=by
 unfold Te at h;split at h
 ·rename_i h2; injection h with h; injection h with h3 h4; subst h3 h4; exact h2
 ·cases h
section
variable {P:Program} {W:World} {M T E:Nat->Prop} {n:Nat} {G G':List (Nat×Value)} {D D' D0 Dr rs:List cS} {F F':List cL} {a:Act} {w w':World} {K:Act->World->Prop}
theorem yZ {d:Option Nat} {t e:TypeId} {ty:TypeId} {X Y:Operand} {b o m z c:Nat} {ag:Bool} {k:IntKind} {i:Int} (I:St W M T n G D F a w) (ht:Te P t=some (m,e)) (he:qT P e=some (ag,z)) (hX:ev G X=some (.pointer (some ⟨b,o,none⟩))) (hY:ev G Y=some (.int k i)) (hi:((i:Int)==(c:Nat))=true) (hc:Nat.blt c m=true) :
  Ye P ⟨d,.indexAddr t X Y,ty,pos,af,g⟩ a E w (.pointer (some ⟨b,o+c*z,none⟩)):=by
 have hi:i=(c:Int):=by simpa using hi
 have hc:c<m:=cw hc;subst hi;refine Ye.of fun w=>?_;simp [execOp,I.ev hX,I.ev hY,Instr.indexAt,asIntOf,run_underlying (Ni ht),Instr.sureAddr,hc,qf he,px]
end
end
section
open Go.RowKit
def QT {κ ν:Type} (RK:aO κ) (ak:Bool) (RV:aO ν) (av:Bool) (T:Nat->Prop) (W w:World) (rs:List cS) (b:Nat) (es:Array MapEntry) (ck:Nat) (xs:List (κ×ν)):Prop :=
 w.heap[b]? = some (.map es ck)/\W.heap.size<=b/\co RK ak RV av (dT T rs) w es xs
theorem Jj {W:World} {b:Nat} {o:Obj} (h:W.heap.size<=b):∀ k,cS.dom (.obj b o) k->W.heap.size<=k:=fun k O=>by
 simp only [cS.dom,cp] at O; omega
section
variable {κ ν:Type} {P:Program} {W:World} {M T E:Nat->Prop} {n:Nat} {G:List (Nat×Value)} {D rs:List cS} {F:List cL} {a:Act} {w:World}
theorem St.retMap {RK:aO κ} {ak:Bool} {RV:aO ν} {av:Bool} {b ck:Nat} {es:Array MapEntry} {xs:List (κ×ν)} (h:St W No T n G D F a w) (hi:Nc D rs) (i:Nat) (hd:D[i]? = some (.obj b (.map es ck))) (j:Nat) (hj:F[j]? = some (rD RK ak RV av es xs)):QT RK ak RV av T W w rs b es ck xs:=by
 have hm:=aD hd;exact⟨h.own _ hm,(h.free _ hm b rfl).2.resolve_left fun h=>h,(h.get j hj:co RK ak RV av (dT T D) w es xs).keep (aj _ _) fun k O=>.inl (hi.sub k O)⟩
end
end
section
open Go.RowKit
variable {pos:String} {af:Array Edge} {g:Option (Nat×Bool)}
def HR {α:Type} (R:aO α):aO (bK ⊕ α) where
 size:=R.size
 rel:=fun T w cs y=>match y with
  | .inl c=>cs=c/\c.length=R.size/\∀ u∈c,u.oneCell'=true
  | .inr x=>R.rel T w cs x
 len:=fun {T w cs y} h=>by
  cases y with
  | inl c=>obtain⟨rfl,h,_⟩:=h; exact h
  | inr x=>exact R.len h
 one:=fun {T w cs y} h=>by
  cases y with
  | inl c=>obtain⟨rfl,_,h⟩:=h; exact h
  | inr x=>exact R.one h
 keep:=fun {T T' w w' cs y} h k n=>by
  cases y with
  | inl c=>exact h
  | inr x=>exact R.keep h k n
def gQ {α:Type} (xs:List α) (i:Int) (cs:bK):List (bK ⊕ α):=(xs.map Sum.inr).set i.toNat (Sum.inl cs)
theorem zG {α:Type} {xs:List α} {i:Int} {cs:bK}:(gQ xs i cs).length=xs.length:=by unfold gQ; simp
section
variable {α:Type} {R:aO α} {P:Program} {W:World} {M T E:Nat->Prop} {n:Nat} {G:List (Nat×Value)} {D rs:List cS} {F:List cL} {a:Act} {w:World} {K:Act->World->Prop} {xs:List α} {i:Int} {x:α} {cs cl:bK}
theorem xo (h:bO xs i=some x) (cs:bK):bO (gQ xs i cs) i=some (Sum.inl cs):=by
 obtain⟨q1,q2,q3⟩:=ja h;unfold bO gQ;have:=(cu.1 q3).1;rw [if_pos q1,Ay,if_pos rfl,if_pos (by simpa using this)]
theorem Lq (cs cs':bK):(gQ xs i cs).set i.toNat (Sum.inl cs')=gQ xs i cs':=by
 unfold gQ; rw [List.set_set]
theorem Mx {T:Nat->Prop} (h:aY R T w cl xs):aY (HR R) T w cl (xs.map Sum.inr):=by
 refine⟨by rw [oz]; exact h.1,fun k y hy=>?_⟩;rw [sf] at hy;cases hx:xs[k]? with
 | none=>rw [hx] at hy; cases hy
 | some x =>
  rw [hx] at hy;obtain rfl:=cC hy;exact h.2 k x hx
theorem St.openH (I:St W M T n G D F a w) (j:Nat) (hj:F[j]? = some (ap R cl xs)):St W M T n G D (ap (HR R) cl (xs.map Sum.inr)::F) a w:=I.fact _ (Mx (I.get j hj))
theorem ff {v:Value} {b o p:Nat} (I:St W M T n G D F a w) (j:Nat) (hj:F[j]? = some (ap (HR R) cl (gQ xs i cs))) (ho:Nf v b o R.size i p) (hg:bO xs i=some x):∀ k u,cs[k]? = some u->cl[p+k]? = some u:=by
 obtain⟨off,m,c,rfl,rfl,rfl⟩:=ho;obtain⟨q1,q2,q3⟩:=ja (xo hg cs);obtain⟨c2,⟨rfl,_,_⟩,h2⟩:=(I.get j hj:aY (HR R) (dT T D) w cl (gQ xs i cs)).2 _ _ q3;exact h2
theorem GK {T:Nat->Prop} (I:aY (HR R) T w cl (gQ xs i cs)) (hg:bO xs i=some x):(HR R).rel T w cs (Sum.inl cs):=by
 obtain⟨q1,q2,q3⟩:=ja (xo hg cs);obtain⟨c2,⟨rfl,h1,h2⟩,_⟩:=I.2 _ _ q3;exact⟨rfl,h1,h2⟩
theorem St.closeH {x':α} (I:St W M T n G D F a w) (j:Nat) (hj:F[j]? = some (ap (HR R) cl (gQ xs i cs))) (hr:R.rel (dT T D) w cs x'):St W M T n G D (ap R cl (xs.set i.toNat x')::F) a w:=by
 have h:aY (HR R) (dT T D) w cl (gQ xs i cs):=I.get j hj;refine I.fact _ ⟨by rw [HC,<- zG (xs:=xs) (i:=i) (cs:=cs)]; exact h.1,fun k y hy=>?_⟩;rw [Ay] at hy;by_cases O:i.toNat=k
 ·subst O;rw [if_pos rfl] at hy;split at hy
  ·rename_i hl;obtain rfl:=cC hy;obtain⟨c2,⟨rfl,_,_⟩,h2⟩:=h.2 i.toNat (Sum.inl cs) (by unfold gQ; rw [Ay,if_pos rfl,if_pos (by simpa using hl)]);exact⟨_,hr,h2⟩
  ·cases hy
 ·rw [if_neg O] at hy;exact h.2 k (Sum.inr y) (by unfold gQ; rw [Ay,if_neg O,sf,hy]; rfl)
theorem Lz {t ty e:TypeId} {X Y:Operand} {ag:Bool} {z b o k p:Nat} {v u:Value} {us:bK} (I:St W M T n G D F a w) (hX:ev G X=some (.pointer (some ⟨b,o+k,none⟩))) (hY:ev G Y=some u) (hu:u.cells.toList=us) (ht:qT P t=some (ag,z)) (q:Nat) (hq:D[q]? = some (.own v e R.size cl)) (j:Nat) (hj:F[j]? = some (ap (HR R) cl (gQ xs i cs))) (ho:Nf v b o R.size i p) (hg:bO xs i=some x)
  (hz:us.length=z) (hl:Nat.ble (k+z) cs.length=true) (hone:∀ y∈pr cs k us,y.oneCell'=true)
  (K':∀ cl' w',Kt (fun j=>v.ownBlock=some j) w w'->St W M T n G (D.set q (.own v e R.size cl')) (ap (HR R) cl' (gQ xs i (pr cs k us))::F) a w'->K a w'):sA P ⟨none,.store t X Y,ty,pos,af,g⟩ a w K:=by
 have hr:(HR R).rel (dT T D) w cs (Sum.inl cs):=GK (I.get j hj) hg;have hlen:(pr cs k us).length=R.size:=by
  have h1:=hr.2.1;have:=cw hl;unfold pr;simp only [bk,eS,mO];omega
 exact zJ (R:=HR R) (xs:=gQ xs i cs) (x:=Sum.inl cs) (x':=Sum.inl (pr cs k us)) (k:=k) (cs:=cs) (us:=us) I hX hY hu ht q hq j hj ho (ff I j hj ho hg) (xo hg cs) hr hz hl ⟨rfl,hlen,hone⟩ fun cl' w' O hS'=>K' cl' w' O (by rw [Lq] at hS'; exact hS')
end
end
section
open Go.RowKit
section
variable {κ β:Type} {P:Program} {W:World} {M T E:Nat->Prop} {n:Nat} {G G':List (Nat×Value)} {D D':List cS} {F F':List cL} {a:Act} {w w':World} {K:Act->World->Prop}
variable {kt et:TypeId} {RK:aO κ} {ak:Bool} {RI:aO β} {e:TypeId} {q:κ->κ->Bool} {b ck:Nat} {es:Array MapEntry} {inn:List DP} {xs:List (κ×List β)}
end
end
section
open Go.RowKit
section
variable {κ ν:Type} {RK:aO κ} {ak:Bool} {RV:aO ν} {av:Bool}
end
section
variable {κ ν:Type} {P:Program} {W:World} {M T E:Nat->Prop} {n:Nat} {G G':List (Nat×Value)} {D D':List cS} {F F':List cL} {a:Act} {w w':World} {K:Act->World->Prop}
variable {kt et:TypeId} {RK:aO κ} {ak:Bool} {RV:aO ν} {av:Bool} {q:κ->κ->Bool} {b clock:Nat} {es:Array MapEntry} {xs:List (κ×ν)}
end
end
section
open Go.RowKit
section
variable {P:Program} {ops:Array Oper} {Q:Exit->Act->World->Prop}
end
end
section
open Go.RowKit
theorem MG {α:Type} {xs:List α} {i:Int} {x:α} (h:bO xs i=some x):xs.set i.toNat x=xs:=by
 obtain⟨_,_,h3⟩:=ja h;obtain⟨h4,h5⟩:=cu.1 h3;rw [<- h5]; exact List.set_getElem_self h4
end
section
open Go.RowKit
variable {X Y Z:Operand} {ck:Nat} {t ty:TypeId}
variable {pos:String} {af:Array Edge} {g:Option (Nat×Bool)}
structure nQ (es:Array MapEntry) (ck:Nat):Prop where
  lt:∀ (i:Nat) (m:MapEntry),es[i]? = some m->m.born<ck
  inj:∀ (i j:Nat) (m m':MapEntry),es[i]? = some m->es[j]? = some m'->m.born=m'.born->i=j
theorem nQ.nil:nQ #[] 0:=⟨fun i m h=>by simp at h,fun i j m m' h=>by simp at h⟩
theorem nQ.push {es:Array MapEntry} (h:nQ es ck) (k v:Value):nQ (es.push { key:=k,val:=v,born:=ck }) (ck+1):=by
  have old:∀ (z:Nat) (m:MapEntry),(es.push { key:=k,val:=v,born:=ck })[z]? = some m->(z<es.size/\es[z]? = some m)∨(z=es.size/\m={ key:=k,val:=v,born:=ck }):=by
    intro z m hz;rw [Array.getElem?_push] at hz;split at hz
    · rename_i h; injection hz with hz; exact .inr ⟨h,hz.symm⟩
    · exact .inl ⟨(Ef.1 hz).1,hz⟩
  refine⟨fun z m hz=>?_,fun z z' m m' hz hz' hb=>?_⟩
  · rcases old z m hz with⟨_,h2⟩|⟨rfl,rfl⟩
    · have:=h.lt z m h2; omega
    · exact Nat.lt_succ_self _
  · rcases old z m hz with⟨_,h2⟩|⟨rfl,rfl⟩ <;> rcases old z' m' hz' with⟨_,h2'⟩|⟨rfl,rfl⟩
    · exact h.inj z z' m m' h2 h2' hb
    · have:=h.lt z m h2; simp only at hb; omega
    · have:=h.lt z' m' h2'; simp only at hb; omega
    · rfl
theorem yK {es:Array MapEntry} {p:Nat} {f:MapEntry->MapEntry} {z:Nat} {m:MapEntry} (hz:(es.modify p f)[z]? = some m):∃ m0,es[z]? = some m0/\m=if p=z then f m0 else m0:=by
  rw [HA] at hz;split at hz
  · rename_i h;obtain⟨m0,h1,rfl⟩:=Option.map_eq_some_iff.1 hz;exact⟨m0,h1,by rw [if_pos h]⟩
  · rename_i h; exact⟨m,hz,by rw [if_neg h]⟩
theorem nQ.modify {es:Array MapEntry} (h:nQ es ck) (p:Nat) (f:MapEntry->MapEntry) (hf:∀ e,(f e).born=e.born):nQ (es.modify p f) ck:=by
  have old:∀ (z:Nat) (m:MapEntry),(es.modify p f)[z]? = some m->∃ m0,es[z]? = some m0/\m.born=m0.born:=by
    intro z m hz;obtain⟨m0,h1,rfl⟩:=yK hz;refine⟨m0,h1,?_⟩;split
    · exact hf m0
    · rfl
  refine⟨fun z m hz=>?_,fun z z' m m' hz hz' hb=>?_⟩
  · obtain⟨m0,h1,h2⟩:=old z m hz; rw [h2]; exact h.lt z m0 h1
  · obtain⟨m0,h1,h2⟩:=old z m hz;obtain⟨m1,h3,h4⟩:=old z' m' hz';exact h.inj z z' m0 m1 h1 h3 (by rw [<- h2,<- h4]; exact hb)
theorem nQ.find {es:Array MapEntry} {p:Nat} {m0:MapEntry} (h:nQ es ck) (hm0:es[p]? = some m0):es.findIdx? (fun m=>(m.born:Int)==(m0.born:Int))=some p:=by
  rw [Array.findIdx?_eq_some_iff_getElem];obtain⟨h1,h2⟩:=Ef.1 hm0;refine⟨h1,by simp [h2],fun z hz=>?_⟩;have hzl:z<es.size:=by omega
  intro h3;have h3:(es[z].born:Int)=(m0.born:Int):=by simpa using h3
  have:=h.inj z p _ _ (BT hzl) hm0 (by omega);omega
def DO (es:Array MapEntry) (ck:Nat):cL:=⟨fun _ _=>nQ es ck,fun h _ _=>h⟩
def QQ {κ ν:Type} (RK:aO κ) (ak:Bool) (RV:aO ν) (av:Bool) (q:κ->κ->Bool) (es:Array MapEntry) (ck:Nat) (xs:List (κ×ν)) (key:κ) (s:Int):cL :=
  ⟨fun T w=>∃ (u:ν) (p:Nat) (m:MapEntry),co RK ak RV av T w es (gT q key u xs)/\nQ es ck/\es[p]? = some m/\s=m.born/\∀ y,(gT q key u xs).set p (key,y)=gT q key y xs,
   fun h k n=>by obtain⟨u,p,m,h1,h2⟩:=h; exact⟨u,p,m,h1.keep k n,h2⟩⟩
section
variable {κ ν:Type} {P:Program} {W:World} {M T E:Nat->Prop} {n:Nat} {G G':List (Nat×Value)} {D D':List cS} {F F':List cL} {a:Act} {w w':World} {K:Act->World->Prop}
variable {kt et:TypeId} {RK:aO κ} {ak:Bool} {RV:aO ν} {av:Bool} {q:κ->κ->Bool} {b clock:Nat} {es:Array MapEntry} {xs:List (κ×ν)}
theorem Ki (ht:Kh P t=some (kt,et)) (hK:AE P kt RK ak q) {T:Nat->Prop} {w w0:World} (hr:w.heap[b]? = some (.map es clock)) (hm:co RK ak RV av T w0 es xs) (hB:nQ es clock) {c cv:bK} {key:κ} {val:ν} (hc:RK.rel T w0 c key) (hv:RV.rel T w0 cv val) :
    ∃ es' ck',(Instr.mapUpdate t (.map (some b)) (bL ak c) (bL av cv)).run P w = .ok () { w with heap:=w.heap.setIfInBounds b (.map es' ck') }/\co RK ak RV av T w0 es' (gT q key val xs)/\nQ es' ck':=by
  obtain⟨hl,hkeys⟩:=xu hm;have hf:=tf hK hc w hl hkeys;have hch:=hK.check false _ _ w _ _ hc;cases hp:vx q key xs with
  | none =>
    obtain⟨_,g2,_⟩:=sY hp;rw [hp] at hf;refine⟨es.push { key:=bL ak c,val:=bL av cv,born:=clock },clock+1,?_,⟨by rw [g2]; simp [hm.1],fun z e x he hx=>?_⟩,hB.push _ _⟩
    · simp [Instr.mapUpdate,run_underlying (oI ht),yE hr,hch,hf,BU,FY _ hr]
    · rw [g2] at hx;by_cases hz:z<xs.length
      · rw [se hz] at hx;rw [QI (by rw [hm.1]; exact hz)] at he;exact hm.2 z e x (by rw [<- he]; exact (BT _)) hx
      · rw [ua (by omega)] at hx;obtain rfl:z=xs.length:=by
          rcases gD xs.length z with h | h
          · rw [E8 (by simp; omega)] at hx; cases hx
          · omega
        simp at hx;subst hx;rw [<- hm.1,Ow] at he;simp only [cp] at he;subst he;exact⟨⟨c,hc,rfl⟩,cv,hv,rfl⟩
  | some p =>
    obtain⟨x0,hx0,hq0,_,g2,_⟩:=sZ hp;have hpi:p<es.size:=by rw [hm.1]; exact (cu.1 hx0).1
    have he0:es[p]? = some es[p]:=BT hpi;obtain⟨⟨d0,hd0,hk0⟩,_⟩:=hm.2 p _ x0 he0 hx0;have hbits:=hK.bits _ _ _ _ _ _ _ _ hc hd0 hq0;rw [hp] at hf;refine⟨es.modify p fun e=>{ e with key:=bL ak c,val:=bL av cv },clock,?_,⟨by rw [g2]; simp [hm.1],fun z e x he hx=>?_⟩,hB.modify p _ fun _=>rfl⟩
    · have hat:BU es.toList 0 (some p)=some (p,es[p].val):=by simp [BU,he0]
      rw [hat] at hf;have hkt:(Instr.keyThatStays (((es[p]?).map (·.key)).getD (bL ak c)) (bL ak c)).run P w = .ok (bL ak c) w:=by
        rw [he0];simp only [mJ,Bf,hk0,Instr.keyThatStays,hbits,if_true,Sem.run_pure]
      simp only [Instr.mapUpdate,Sem.run_bind,run_underlying (oI ht),Result.andThen_ok,yE hr,hch,hf,hkt,FY _ hr]
    · rw [g2] at hx;by_cases hz:p=z
      · subst hz;rw [E9 (by rw [<- hm.1]; exact hpi)] at hx;simp only [cp] at hx;subst hx;rw [HA,if_pos rfl,he0] at he;simp only [mJ,cp] at he;subst he;exact⟨⟨c,hc,rfl⟩,cv,hv,rfl⟩
      · rw [List.getElem?_set_ne hz] at hx;rw [HA,if_neg hz] at he;exact hm.2 z e x he hx
theorem GN {d:Nat} (RK:aO κ) (ak:Bool) (RV:aO ν) (av:Bool) (I:St W M T n G D F a w) (hn:Nat.blt d n=true)
    (k:∀ b,w.heap.size<=b->∀ a w',Kt No w w'->St W M T n ((d,.map (some b))::G) (.obj b (.map #[] 0)::D) (DO #[] 0::rD RK ak RV av #[] []::F) a w'->K a w'):sA P ⟨some d,.makeMap t none,ty,pos,af,g⟩ a w K :=
  tQ RK ak RV av I hn fun b hb a w' O I=>k b hb a w' O (I.fact _ nQ.nil)
theorem Jd (I:St W M T n G D F a w) (ht:Kh P t=some (kt,et)) (hK:AE P kt RK ak q) (i:Nat) (hi:D[i]? = some (.obj b (.map es clock))) (j:Nat) (hj:F[j]? = some (rD RK ak RV av es xs)) (jb:Nat) (hb:F[jb]? = some (DO es clock))
    {c cv:bK} {key:κ} {val:ν} (hc:RK.rel (dT T D) w c key) (hv:RV.rel (dT T D) w cv val) (hX:ev G X=some (.map (some b))) (hY:ev G Y=some (bL ak c)) (hZ:ev G Z=some (bL av cv))
    (k:∀ es' ck' w',Kt (fun j=>j=b) w w'->St W M T n G (D.set i (.obj b (.map es' ck'))) (DO es' ck'::rD RK ak RV av es' (gT q key val xs)::F) a w'->K a w'):sA P ⟨none,.mapUpdate t X Y Z,ty,pos,af,g⟩ a w K:=by
  have hr:w.heap[b]? = some (.map es clock):=I.own _ (aD hi);obtain⟨es',ck',hrun,hok,hB⟩:=Ki ht hK hr (I.mapOk j hj) (I.get jb hb) hc hv;refine GP (w':={ w with heap:=w.heap.setIfInBounds b (.map es' ck') }) (by simp [execOp,I.ev hX,I.ev hY,I.ev hZ,hrun]) (k es' ck' _ ((sv hr).mono fun j hj=>(cC hj).symm) ?_);exact ((I.fact (rD RK ak RV av es' _) hok).fact (DO es' ck') hB).turn hi (sv hr) (r':=.obj b (.map es' ck')) (si hr).1 fun j hj=>.inl hj
theorem CP (I:St W M T n G D F a w) (ht:Kh P t=some (kt,et)) (hK:AE P kt RK ak q) (i:Nat) (hi:D[i]? = some (.obj b (.map es clock))) (j:Nat) (hj:F[j]? = some (rD RK ak RV av es xs)) (jb:Nat) (hb:F[jb]? = some (DO es clock))
    {c cv:bK} {key:κ} {val:ν} (hc:RK.rel (dT T D) w c key) (hv:RV.rel (dT T D) w cv val) (hX:ev G X=some (.map (some b))) (hY:ev G Y=some (bL ak c)) (hZ:ev G Z=some (bL av cv))
    (k:∀ es' ck' w',Kt (fun j=>j=b) w w'->St W M T n G (D.set i (.obj b (.map es' ck'))) (DO es' ck'::rD RK ak RV av es' (gT q key val xs)::F) a w'->K a w'):sA P ⟨none,.insert t X Y Z,ty,pos,af,g⟩ a w K :=
  Jd (ty:=ty) (pos:=pos) (af:=af) (g:=g) I ht hK i hi j hj jb hb hc hv hX hY hZ k
theorem Kd {d:Nat} (I:St W M T n G D F a w) (hd:Nat.blt d n=true) (ht:Kh P t=some (kt,et)) (hK:AE P kt RK ak q) (i:Nat) (hi:D[i]? = some (.obj b (.map es clock))) (j:Nat) (hj:F[j]? = some (rD RK ak RV av es xs)) (jb:Nat) (hb:F[jb]? = some (DO es clock))
    {c:bK} {key:κ} (hc:RK.rel (dT T D) w c key) {z:Value} {zc:bK} {z0:ν} (hz:Ps P et=some z) (hzc:z=bL av zc) (hz0:RV.rel (dT T D) w zc z0) (hX:ev G X=some (.map (some b))) (hY:ev G Y=some (bL ak c))
    (k:∀ v es' ck' (s:Int) a w',Kt (fun j=>j=b) w w'->St W M T n ((d,.tuple #[v,.int .i64 s])::G) (D.set i (.obj b (.map es' ck'))) (QQ RK ak RV av q es' ck' xs key s::F) a w'->K a w'):sA P ⟨some d,.mapEntry t X Y,ty,pos,af,g⟩ a w K:=by
  have hr:w.heap[b]? = some (.map es clock):=I.own _ (aD hi);have hm:=I.mapOk j hj;have hB:nQ es clock:=I.get jb hb;obtain⟨hl,hkeys⟩:=xu hm;have hf:=tf hK hc w hl hkeys;have hch:=hK.check false _ _ w _ _ hc;have hzr:=Gc (P:=P) hz w;cases hp:vx q key xs with
  | none =>
    obtain⟨_,g2,_⟩:=sY hp;rw [hp] at hf;have hrun:(execOp a.eval ⟨some d,.mapEntry t X Y,ty,pos,af,g⟩).run P w = .ok (.value (.tuple #[z,.int .i64 clock])) { w with heap:=w.heap.setIfInBounds b (.map (es.push { key:=bL ak c,val:=z,born:=clock }) (clock+1)) }:=by
      simp [execOp,I.ev hX,I.ev hY,Instr.mapEntry,run_underlying (oI ht),yE hr,hch,hf,BU,FY _ hr,hzr,goInt]
    refine BK hrun (k z (es.push { key:=bL ak c,val:=z,born:=clock }) (clock+1) clock _ _ ((sv hr).mono fun j hj=>(cC hj).symm) ?_);refine St.put ?_ hd _;refine (I.fact (QQ RK ak RV av q _ (clock+1) xs key clock) ?_).turn hi (sv hr) (r':=.obj b (.map (es.push { key:=bL ak c,val:=z,born:=clock }) (clock+1))) (si hr).1 fun j hj=>.inl hj;refine⟨z0,xs.length,{ key:=bL ak c,val:=z,born:=clock },⟨by rw [g2]; simp [hm.1],fun y e x he hx=>?_⟩,hB.push _ _,by rw [<- hm.1,Ow],rfl,fun y=>by rw [g2,g2,List.set_append_right _ _ (cm _)]; simp⟩;rw [g2] at hx;by_cases hz:y<xs.length
    · rw [se hz] at hx;rw [QI (by rw [hm.1]; exact hz)] at he;exact hm.2 y e x (by rw [<- he]; exact (BT _)) hx
    · rw [ua (by omega)] at hx;obtain rfl:y=xs.length:=by
        rcases gD xs.length y with h | h
        · rw [E8 (by simp; omega)] at hx; cases hx
        · omega
      simp at hx;subst hx;rw [<- hm.1,Ow] at he;simp only [cp] at he;subst he;exact⟨⟨c,hc,rfl⟩,zc,hz0,hzc⟩
  | some p =>
    obtain⟨x0,hx0,hq0,_,g2,_⟩:=sZ hp;have hpi:p<es.size:=by rw [hm.1]; exact (cu.1 hx0).1
    have hpx:p<xs.length:=(cu.1 hx0).1;have he0:es[p]? = some es[p]:=BT hpi;obtain⟨⟨d0,hd0,hk0⟩,cv0,hcv0,hv0⟩:=hm.2 p _ x0 he0 hx0;have hbits:=hK.bits _ _ _ _ _ _ _ _ hc hd0 hq0;rw [hp] at hf;have hat:BU es.toList 0 (some p)=some (p,es[p].val):=by simp [BU,he0]
    rw [hat] at hf;have hkt:(Instr.keyThatStays es[p].key (bL ak c)).run P w = .ok (bL ak c) w:=by
      simp only [hk0,Instr.keyThatStays,hbits,if_true,Sem.run_pure]
    have hrun:(execOp a.eval ⟨some d,.mapEntry t X Y,ty,pos,af,g⟩).run P w = .ok (.value (.tuple #[es[p].val,.int .i64 es[p].born])) { w with heap:=w.heap.setIfInBounds b (.map (es.modify p fun m=>{ m with key:=bL ak c }) clock) }:=by
      have h5:(Instr.mapEntry t (.map (some b)) (bL ak c)).run P w = .ok (.tuple #[es[p].val,.int .i64 es[p].born]) { w with heap:=w.heap.setIfInBounds b (.map (es.modify p fun m=>{ m with key:=bL ak c }) clock) }:=by
        simp only [Instr.mapEntry,Sem.run_bind,run_underlying (oI ht),Result.andThen_ok,yE hr,hch,hf,hkt,FY _ hr,Sem.run_pure,goInt,he0,mJ,Bf]
      simp only [execOp,I.ev hX,I.ev hY,Sem.run_bind,h5,Result.andThen_ok,Sem.run_pure]
    refine BK hrun (k es[p].val (es.modify p fun m=>{ m with key:=bL ak c }) clock es[p].born _ _ ((sv hr).mono fun j hj=>(cC hj).symm) ?_);refine St.put ?_ hd _;refine (I.fact (QQ RK ak RV av q _ clock xs key es[p].born) ?_).turn hi (sv hr) (r':=.obj b (.map (es.modify p fun m=>{ m with key:=bL ak c }) clock)) (si hr).1 fun j hj=>.inl hj;refine⟨x0.2,p,{ es[p] with key:=bL ak c },⟨by rw [g2]; simp [hm.1],fun y e x he hx=>?_⟩,hB.modify p _ fun _=>rfl,by rw [HA,if_pos rfl,he0]; rfl,rfl,fun y=>by rw [g2,g2,List.set_set]⟩;obtain⟨m0,h1,h2⟩:=yK he;rw [g2,Ay] at hx;by_cases hz:p=y
    · subst hz;rw [if_pos rfl,if_pos hpx] at hx;simp only [cp] at hx;subst hx;rw [if_pos rfl] at h2;rw [he0] at h1;obtain rfl:=cC h1;subst h2;exact⟨⟨c,hc,rfl⟩,cv0,hcv0,hv0⟩
    · rw [if_neg hz] at hx h2;subst h2;exact hm.2 y _ x h1 hx
theorem Ke {key:κ} {s:Int} {cv:bK} {val:ν} (I:St W M T n G D F a w) (i:Nat) (hi:D[i]? = some (.obj b (.map es clock))) (j:Nat) (hj:F[j]? = some (QQ RK ak RV av q es clock xs key s)) (hv:RV.rel (dT T D) w cv val) (hX:ev G X=some (.map (some b))) (hY:ev G Y=some (.int .i64 s)) (hZ:ev G Z=some (bL av cv))
    (k:∀ es' w',Kt (fun j=>j=b) w w'->St W M T n G (D.set i (.obj b (.map es' clock))) (DO es' clock::rD RK ak RV av es' (gT q key val xs)::F) a w'->K a w'):sA P ⟨none,.entryStore t X Y Z,ty,pos,af,g⟩ a w K:=by
  have hr:w.heap[b]? = some (.map es clock):=I.own _ (aD hi);obtain⟨u,p,m0,hm,hB,hm0,rfl,hset'⟩:(QQ RK ak RV av q es clock xs key s).p (dT T D) w:=I.get j hj;have hfi:=hB.find hm0;have hrun:(execOp a.eval ⟨none,.entryStore t X Y Z,ty,pos,af,g⟩).run P w = .ok .skip { w with heap:=w.heap.setIfInBounds b (.map (es.modify p fun m=>{ m with val:=bL av cv }) clock) }:=by
    have h5:(Instr.entryStore t (.map (some b)) (.int .i64 (m0.born:Int)) (bL av cv)).run P w = .ok () { w with heap:=w.heap.setIfInBounds b (.map (es.modify p fun m=>{ m with val:=bL av cv }) clock) }:=by
      simp only [Instr.entryStore,Sem.run_bind,yE hr,Result.andThen_ok,asInt,asIntOf,Sem.run_pure,hfi,FY _ hr]
    simp only [execOp,I.ev hX,I.ev hY,I.ev hZ,Sem.run_bind,h5,Result.andThen_ok,Sem.run_pure]
  refine GP hrun (k (es.modify p fun m=>{ m with val:=bL av cv }) _ ((sv hr).mono fun j hj=>(cC hj).symm) ?_);refine ((I.fact (rD RK ak RV av (es.modify p fun m=>{ m with val:=bL av cv }) (gT q key val xs)) ?_).fact (DO (es.modify p fun m=>{ m with val:=bL av cv }) clock) (hB.modify p _ fun _=>rfl)).turn hi (sv hr) (r':=.obj b (.map (es.modify p fun m=>{ m with val:=bL av cv }) clock)) (si hr).1 fun j hj=>.inl hj;rw [<- hset' val];refine⟨by simp [hm.1],fun y e x he hx=>?_⟩;obtain⟨m1,h1,h2⟩:=yK he;rw [Ay] at hx;by_cases hz:p=y
  · subst hz;have hpx:p<(gT q key u xs).length:=by rw [<- hm.1]; exact (Ef.1 h1).1
    rw [if_pos rfl,if_pos hpx] at hx;simp only [cp] at hx;subst hx;rw [if_pos rfl] at h2;subst h2;obtain⟨⟨d,hd,O⟩,_⟩:=hm.2 p m1 _ h1 (cH hpx);have hkk:(gT q key u xs)[p].1=key:=by
      have h6:=hset' u;have h7:=congrArg (fun l=>l[p]?) h6;simp only [Ay,if_true,hpx,cH hpx,cp] at h7;rw [<- h7]
    exact⟨⟨d,by rw [hkk] at hd; exact hd,O⟩,cv,hv,rfl⟩
  · rw [if_neg hz] at hx h2;subst h2;exact hm.2 y _ x h1 hx
end
end
section
open Go.RowKit
section
variable {P:Program} {a:Act} {w:World} {Q:Exit->Act->World->Prop}
theorem An {x:Code} (J:Act->World->Prop) (h1:x.wp P (Exit.then J Q) a w) (h2:∀ a w,J a w->Q .normal a w):x.wp P Q a w :=
 wp_mono h1 fun e a w h=>by cases e <;> first | exact h2 a w h | exact h
theorem wx {fn:Func} {R:Ending->World->Prop} (h:bodyPost P fn R .ret a w):bodyPost P fn R .normal a w:=h
end
section
variable {κ ν:Type} {P:Program} {W:World} {M T E:Nat->Prop} {n:Nat} {G G':List (Nat×Value)} {D D':List cS} {F F':List cL} {a:Act} {w w':World} {K:Act->World->Prop}
variable {kt et:TypeId} {RK:aO κ} {ak:Bool} {RV:aO ν} {av:Bool} {q:κ->κ->Bool} {b r ck:Nat} {es:Array MapEntry} {seen:Array Nat} {xs:List (κ×ν)}
end
end
section
open Go.RowKit
section
variable {P:Program} {W:World} {M T:Nat->Prop} {n d j t:Nat} {G:List (Nat×Value)} {D:List cS} {F:List cL} {a:Act} {w:World} {ops:Array Oper} {Q:Exit->Act->World->Prop} {rest:List Oper} {o:Oper} {v:Value} {x y:Operand} {ty tt t':TypeId} {pos:String} {af:Array Edge} {want c:Bool} {id:Nat} {l:List Oper} {z:Code}
theorem qy (I:St W M T n G D F a w) (h:Ye P o a No w v) (k:∀ a,St W M T n ((d,v)::G) D F a w->wpList P ops Q rest a w) (hg:o.guard=none:=by rfl) (hd:o.dst=some d:=by rfl) (hn:Nat.blt d n=true:=by rfl):wpList P ops Q (o::rest) a w:=wy I h hg hd hn k
theorem qg (I:St W M T n G D F a w) (hc:c=want) (h:Ye P o a No w v) (k:∀ a,St W M T n ((d,v)::G) D F a w->wpList P ops Q rest a w) (hg:o.guard=some (j,want):=by rfl) (hj:(ops[j]?).bind (·.dst)=some t:=by rfl) (ht:lk G t=some (.bool c):=by rfl) (hd:o.dst=some d:=by rfl) (hn:Nat.blt d n=true:=by rfl):wpList P ops Q (o::rest) a w:=wg I hg hj ht hc (ky I h hd hn k)
theorem qm (I:St W M T n G D F a w) (k:∀ a,St W M T n ((d,v)::G) D F a w->wpList P ops Q rest a w) (hx:ev G x=some v:=by rfl) (hn:Nat.blt d n=true:=by rfl):wpList P ops Q (⟨some d,.move x,ty,pos,af,none⟩::rest) a w:=wy I (M4 I hx) rfl rfl hn k
theorem qa (I:St W M T n G D F a w) (k:∀ a,St W M T n ((d,v)::G) D F a w->wpList P ops Q rest a w) (hx:ev G x=some v:=by rfl) (hn:Nat.blt d n=true:=by rfl):wpList P ops Q (⟨some d,.assign x,ty,pos,af,none⟩::rest) a w:=wy I (Ho I hx) rfl rfl hn k
theorem rq (h:∀ K:Act->World->Prop,(∀ a w,z.wp P Q a w->K a w)->wpList P l.toArray (Exit.then K Q) l a w):(Code.seq (Code.region id l.toArray false) z).wp P Q a w:=wp_seq_k fun K hK=>Ib (h K hK)
theorem rz (h:Q .normal a w):wpList P ops Q [] a w:=wpList_nil h
end
end
section
open Go.RowKit
variable {X:Operand} {ag:Bool} {e e' t ty:TypeId} {v:Value}
variable {pos:String} {af:Array Edge} {g:Option (Nat×Bool)}
section
variable {α:Type} {R:aO α} {P:Program} {W:World} {M T E:Nat->Prop} {n:Nat} {G:List (Nat×Value)} {D rs:List cS} {F:List cL} {a:Act} {w:World} {K:Act->World->Prop} {xs ys:List α} {i:Int} {x:α} {cs cl:bK}
theorem M1 {d:Option Nat} (I:St W M T n G D F a w) (ht:n8 P t=some e) (hx:ev G X=some v) (j:Nat) (hj:D[j]? = some (.own v e' R.size cl)) (p:Nat) (hp:F[p]? = some (ap (HR R) cl (gQ xs i cs))):Ye P ⟨d,.call { callee:=.builtin .len,args:=#[X],argTypes:=#[t] },ty,pos,af,g⟩ a E w (.int .i64 xs.length):=by
  have h:=M2 (R:=HR R) (xs:=gQ xs i cs) (d:=d) (ty:=ty) (pos:=pos) (af:=af) (g:=g) (E:=E) I ht hx j hj p hp;rw [zG] at h;exact h
theorem NC {lo hi:Int} (I:St W M T n G D F a w) (ht:n8 P t=some e) (he:qT P e=some (ag,R.size)) (q:Nat) (hq:D[q]? = some (.own v e' R.size cl)) (j:Nat) (hj:F[j]? = some (ap (HR R) cl (gQ xs i cs))) (hg:uV xs lo hi=some ys) :
    ∃ v',(∀ (T:Nat->Prop) (w:World),aI R T w v xs->aI R T w v' ys)/\(∀ {E:Nat->Prop} {d:Option Nat} {ty:TypeId} {X:Operand} {olo ohi:Option Operand} {pos:String} {af:Array Edge} {g:Option (Nat×Bool)} {k1 k2:IntKind},ev G X=some v->((∃ x,olo=some x/\ev G x=some (.int k1 lo))∨(olo=none/\lo=0))->((∃ x,ohi=some x/\ev G x=some (.int k2 hi))∨(ohi=none/\hi=xs.length))->Ye P ⟨d,.slice t X olo ohi none,ty,pos,af,g⟩ a E w v'):=by
  obtain⟨q1,q2,q3,rfl⟩:=xB hg;obtain⟨A,c,hv,h1,h2,hS'⟩:=SR (R:=HR R) (xs:=gQ xs i cs) (lo:=lo.toNat) (hi:=hi.toNat) I q hq j hj (by omega) (by rw [zG]; omega);rw [zG] at hv h1;refine⟨_,fun T w h=>?_,fun hX hlo hhi=>S3 I ht he q1 q2 q3 h1 hv hX hlo hhi⟩;subst hv;refine h.cut (by omega) (by omega) _ (fun hlt b o U=>?_);rw [if_neg (by omega),U];simp [px,HR]
theorem Ly {d:Nat} {Y:Operand} {k:IntKind} (I:St W M T n G D F a w) (ht:n8 P t=some e) (he:qT P e=some (ag,R.size)) (hX:ev G X=some v) (hY:ev G Y=some (.int k i)) (q:Nat) (hq:D[q]? = some (.own v e' R.size cl)) (j:Nat) (hj:F[j]? = some (ap (HR R) cl (gQ xs i cs))) (hg:bO xs i=some x) (hn:Nat.blt d n=true)
    (K':∀ b o p,Nf v b o R.size i p->(∀ k u,cs[k]? = some u->cl[p+k]? = some u)->∀ a,St W M T n ((d,.pointer (some ⟨b,o,none⟩))::G) D F a w->K a w):sA P ⟨some d,.indexAddr t X Y,ty,pos,af,g⟩ a w K :=
  fo (R:=HR R) I ht he hX hY q hq j hj (xo hg cs) hn fun b o p c hr ho hc=>by
    obtain⟨rfl,_,_⟩:=hr;exact K' b o p ho hc
theorem qx {Y:Operand} {z b o k p:Nat} {u:Value} {us:bK} (I:St W M T n G D F a w) (hX:ev G X=some (.pointer (some ⟨b,o+k,none⟩))) (hY:ev G Y=some u) (hu:u.cells.toList=us) (ht:qT P t=some (ag,z)) (q:Nat) (hq:D[q]? = some (.own v e R.size cl)) (j:Nat) (hj:F[j]? = some (ap (HR R) cl (gQ xs i cs))) (ho:Nf v b o R.size i p) (hg:bO xs i=some x)
    (hz:us.length=z) (hl:Nat.ble (k+z) cs.length=true) (hone:∀ y∈us,y.oneCell'=true)
    (K':∀ cl' w',Kt (fun j=>v.ownBlock=some j) w w'->St W M T n G (D.set q (.own v e R.size cl')) (ap (HR R) cl' (gQ xs i (pr cs k us))::F) a w'->K a w'):sA P ⟨none,.store t X Y,ty,pos,af,g⟩ a w K :=
  Lz I hX hY hu ht q hq j hj ho hg hz hl (fun y hy=>by
    have hr:(HR R).rel (dT T D) w cs (Sum.inl cs):=GK (I.get j hj) hg;unfold pr at hy;simp only [dw] at hy;rcases hy with (hy | hy) | hy
    · exact hr.2.2 y (y4 hy)
    · exact hone y hy
    · exact hr.2.2 y (A8 hy)) K'
theorem St.zc (I:St W M T n G D F a w) (j:Nat) (hj:F[j]? = some (ap (HR R) cl (gQ xs i cs))) (hg:bO xs i=some x) (hr:R.rel (dT T D) w cs x):St W M T n G D (ap R cl xs::F) a w:=by
  have h:=I.closeH j hj hr;rw [MG hg] at h;exact h
def CT {α:Type} (p:List α) (cs:bK):List (bK ⊕ α):=p.map Sum.inr++[Sum.inl cs]
theorem Ew {p:List α} (h:i.toNat=p.length):gQ (p++[x]) i cs=CT p cs:=by
  unfold gQ CT;rw [h,Az,List.set_append_right _ _ (by simp)];simp
theorem Me (I:St W M T n G D F a w) (q:Nat) (hq:D[q]? = some (.own v e R.size cl)) (j:Nat) (hj:F[j]? = some (ap R cl xs)):xs.length<=maxLen:=by
  obtain⟨h1,h2⟩:=I.own _ (aD hq);have h3:aY R (dT T D) w cl xs:=I.get j hj;obtain⟨A,m,c,rfl,h4,h5,h6,_⟩:=h1.form h2;have:m=xs.length:=za h2 (h4.symm.trans h3.1);omega
theorem LP {p:List α} {x e:α} (hb:p.length<=maxLen) (h:bO (p++[x]) (IntKind.i64.wrap (((p++[x]).length:Int)-1))=some e):x=e/\(IntKind.i64.wrap (((p++[x]).length:Int)-1)).toNat=p.length:=by
  obtain⟨h1,h2,h3⟩:=ja h;have hl:(p++[x]).length=p.length+1:=by simp
  unfold maxLen at hb;have hw:IntKind.i64.wrap (((p++[x]).length:Int)-1)=p.length:=by rw [IntKind.wrap_i64,hl]; omega
  rw [hw] at h3 ⊢;refine⟨?_,by simp⟩;simpa using h3
theorem St.closeLast {p:List α} (I:St W M T n G D F a w) (j:Nat) (hj:F[j]? = some (ap (HR R) cl (CT p cs))) (hr:R.rel (dT T D) w cs x):St W M T n G D (ap R cl (p++[x])::F) a w:=by
  have h:=I.closeH (R:=R) (xs:=p++[x]) (i:=(p.length:Int)) (cs:=cs) j (by rw [Ew (by simp)]; exact hj) hr;rw [show (p++[x]).set ((p.length:Int)).toNat x=p++[x] by simp] at h;exact h
end
section
variable {α:Type} {R:aO α} {P:Program} {W:World} {M T E:Nat->Prop} {n:Nat} {G:List (Nat×Value)} {D rs:List cS} {F:List cL} {a:Act} {w:World} {K:Act->World->Prop} {xs ys zs:List α} {v0 v1 v2:Value}
end
section
variable {W:World} {M T:Nat->Prop} {n:Nat} {G G2:List (Nat×Value)} {D rs:List cS} {F F2 F0:List cL} {a:Act} {w:World}
def rE (W:World) (M:Nat->Prop) (rs:List cS) (F0:List cL):cL :=
  ⟨fun T w=>(∀ r∈rs,r.ok w)/\(∀ r∈rs,∀ k,r.dom k->¬ T k/\(M k∨W.heap.size<=k))/\(rs.Pairwise fun (r s:cS)=>∀ (k:Nat),r.dom k->¬ s.dom k)/\∀ f∈F0,f.p (dT T rs) w,
   fun h k n=>⟨fun r hr=>cS.keep (h.1 r hr) fun j hj=>k.block j (cS.lt (h.1 r hr) j hj) (h.2.1 r hr j hj).1,
     fun r hr j hj=>⟨fun hT=>by
       rcases n j hT with h1 | h1
       · exact (h.2.1 r hr j hj).1 h1
       · have:=cS.lt (h.1 r hr) j hj; omega,(h.2.1 r hr j hj).2⟩,h.2.2.1,
     fun f hf=>f.keep (h.2.2.2 f hf) (k.mono fun j hj=>.inl hj) fun j hj=>by
       rcases hj with hj | hj
       · rcases n j hj with h1 | h1
         · exact .inl (.inl h1)
         · exact .inr h1
       · exact .inl (.inr hj)⟩⟩
theorem St.snap (I:St W M T n G D F2 a w) (hY:St W M T n G2 (rs++D) F a w):St W M T n G D (rE W M rs F::F2) a w :=
  I.fact _ ⟨fun r hr=>hY.own r (oA _ hr),fun r hr k O=>⟨by
      rintro (hT | ⟨s,hs,hT⟩)
      · exact (hY.free r (oA _ hr) k O).1 hT
      · exact (uw.1 hY.apart).2.2 r hr s hs k O hT,(hY.free r (oA _ hr) k O).2⟩,(uw.1 hY.apart).1,
    fun f hf=>f.keep (hY.facts f hf) (aj _ _) fun k O=>.inl (by
      rcases O with (O | ⟨s,hs,O⟩) | ⟨r,hr,O⟩
      · exact .inl O
      · exact .inr ⟨s,xj _ hs,O⟩
      · exact .inr ⟨r,oA _ hr,O⟩)⟩
theorem St.thaw (I:St W M T n G D F a w) (i:Nat) (hi:F[i]? = some (rE W M rs F0)):St W M T n G (rs++D) F0 a w:=by
  obtain⟨h1,h2,h3,h4⟩:=(show (rE W M rs F0).p _ _ from I.get i hi);refine⟨I.size,I.defers,I.slots,I.base,fun r hr=>?_,fun r hr k O=>?_,uw.2 ⟨h3,I.apart,fun r hr s hs k O hk2=>(h2 r hr k O).1 (.inr ⟨s,hs,hk2⟩)⟩,fun f hf=>f.keep (h4 f hf) (aj _ _) fun k O=>.inl ?_,I.tlt⟩
  · rcases dw.1 hr with hr | hr
    · exact h1 r hr
    · exact I.own r hr
  · rcases dw.1 hr with hr | hr
    · exact⟨fun hT=>(h2 r hr k O).1 (.inl hT),(h2 r hr k O).2⟩
    · exact I.free r hr k O
  · rcases O with O | ⟨s,hs,O⟩
    · exact .inl (.inl O)
    · rcases dw.1 hs with hs | hs
      · exact .inr ⟨s,hs,O⟩
      · exact .inl (.inr ⟨s,hs,O⟩)
end
end
section
open Go.RowKit
structure ah where
  k:Int
  t:ByteArray
def ac:aO ah where
  size:=2
  rel:=fun _ _ cs x=>cs=[.int .i64 x.k,.string x.t]
  len:=by rintro _ _ _ _ rfl; rfl
  one:=by rintro _ _ _ _ rfl; exact (oc rfl (oc rfl on))
  keep:=fun h _ _=>h
structure ay where
  d:ah
  u:ByteArray
  v:(List ah)
  x:Int
  c:Int
  h:Int
  w:Bool
def aa:aO ay where
  size:=8
  rel:=fun T w cs x=>∃ v1,cs=[.int .i64 x.d.k,.string x.d.t,.string x.u,v1,.int .i64 x.x,.int .i64 x.c,.int .i64 x.h,.bool x.w]/\aI ac T w v1 x.v
  len:=by rintro _ _ _ _ ⟨v1,rfl,hv1⟩; rfl
  one:=by rintro _ _ _ _ ⟨v1,rfl,hv1⟩; exact (oc rfl (oc rfl (oc rfl (oc hv1.one (oc rfl (oc rfl (oc rfl (oc rfl on))))))))
  keep:=by rintro _ _ _ _ _ _ ⟨v1,rfl,hv1⟩ k n; exact⟨v1,rfl,hv1.keep k n⟩
structure bc where
  d:ah
  u:ByteArray
  x:Int
def ab:aO bc where
  size:=4
  rel:=fun _ _ cs x=>cs=[.int .i64 x.d.k,.string x.d.t,.string x.u,.int .i64 x.x]
  len:=by rintro _ _ _ _ rfl; rfl
  one:=by rintro _ _ _ _ rfl; exact (oc rfl (oc rfl (oc rfl (oc rfl on))))
  keep:=fun h _ _=>h
structure ao where
  r:Int
  i:(List bc)
  s:(List ay)
def Ng:aO ao where
  size:=3
  rel:=fun T w cs x=>∃ v1 v2,cs=[.int .i64 x.r,v1,v2]/\aI ab T w v1 x.i/\aI aa T w v2 x.s
  len:=by rintro _ _ _ _ ⟨v1,v2,rfl,hv1,hv2⟩; rfl
  one:=by rintro _ _ _ _ ⟨v1,v2,rfl,hv1,hv2⟩; exact (oc rfl (oc hv1.one (oc hv2.one on)))
  keep:=by rintro _ _ _ _ _ _ ⟨v1,v2,rfl,hv1,hv2⟩ k n; exact⟨v1,v2,rfl,hv1.keep k n,hv2.keep k n⟩
theorem Q5:aS aR 122=true:=by kernel_rfl
theorem Q6:aS aR 123=true:=by kernel_rfl
theorem OK:aS aR 124=true:=by kernel_rfl
theorem Q7:aS aR 125=true:=by kernel_rfl
theorem Q8:aS aR 126=true:=by kernel_rfl
theorem IY:aS aR 147=true:=by kernel_rfl
theorem Gt:aS aR 152=true:=by kernel_rfl
theorem Gu:aS aR 157=true:=by kernel_rfl
theorem Rr:aS aR 160=true:=by kernel_rfl
theorem Rx:aS aR 176=true:=by kernel_rfl
theorem K5:aS aR 177=true:=by kernel_rfl
theorem Ry:aS aR 178=true:=by kernel_rfl
theorem Rz:aS aR 179=true:=by kernel_rfl
theorem RA:aS aR 180=true:=by kernel_rfl
theorem OS:aS aR 196=true:=by kernel_rfl
theorem OT:aS aR 197=true:=by kernel_rfl
theorem RJ:aS aR 198=true:=by kernel_rfl
theorem RN:aS aR 218=true:=by kernel_rfl
theorem RO:aS aR 219=true:=by kernel_rfl
theorem RP:aS aR 220=true:=by kernel_rfl
theorem O0:aS aR 221=true:=by kernel_rfl
theorem RU:aS aR 249=true:=by kernel_rfl
theorem RW:aS aR 250=true:=by kernel_rfl
theorem CC:DM aR 22=some (91,4,48):=by kernel_rfl
theorem tL:DM aR 23=some (33,8,96):=by kernel_rfl
theorem NF:DM aR 26=some (3,1,8):=by kernel_rfl
theorem lr:DM aR 31=some (30,2,24):=by kernel_rfl
theorem Sc:Tryz.prog.underlying 241=some (.interface (Tryz.prog.methodsAt 241)):=by kernel_rfl
theorem mixed:Tryz.prog.follows .mixedOrders=true:=by kernel_rfl
theorem Dp:n8 aR 22=some 91:=by kernel_rfl
theorem qQ:n8 aR 23=some 33:=by kernel_rfl
theorem Ky:n8 aR 26=some 3:=by kernel_rfl
theorem qR:n8 aR 31=some 30:=by kernel_rfl
theorem SV:qT aR 22=some (false,1):=by kernel_rfl
theorem gN:qT aR 25=some (true,3):=by kernel_rfl
theorem F3:qT aR 3=some (false,1):=by kernel_rfl
theorem iQ:qT aR 30=some (true,2):=by kernel_rfl
theorem He:qT aR 31=some (false,1):=by kernel_rfl
theorem oy:qT aR 33=some (true,8):=by kernel_rfl
theorem Qz:qT aR 4=some (false,1):=by kernel_rfl
theorem M9:qT aR 9=some (false,1):=by kernel_rfl
theorem BS:qT aR 91=some (true,4):=by kernel_rfl
theorem kg:gF aR 25=some [.int .i64 0,.slice none 0 0,.slice none 0 0]:=by kernel_rfl
theorem Tg:gF aR 3=some [.int .i64 0]:=by kernel_rfl
theorem f0:gF aR 33=some [.int .i64 0,.string cr,.string cr,.slice none 0 0,.int .i64 0,.int .i64 0,.int .i64 0,.bool false]:=by kernel_rfl
theorem vU:gF aR 91=some [.int .i64 0,.string cr,.string cr,.int .i64 0]:=by kernel_rfl
end
section
open Go.RowKit
structure bv where
  L:(List Int)
  s1:Int
structure fw where
  d:ah
  u:ByteArray
def bG:aO fw where
  size:=3
  rel:=fun _ _ cs x=>cs=[.int .i64 x.d.k,.string x.d.t,.string x.u]
  len:=by rintro _ _ _ _ rfl; rfl
  one:=by rintro _ _ _ _ rfl; exact (oc rfl (oc rfl (oc rfl on)))
  keep:=fun h _ _=>h
structure fZ where
  t1:Bool
  c1:Bool
  N:Int
  u1:Int
def gg:aO fZ where
  size:=4
  rel:=fun _ _ cs x=>cs=[.bool x.t1,.bool x.c1,.int .i64 x.N,.int .i64 x.u1]
  len:=by rintro _ _ _ _ rfl; rfl
  one:=by rintro _ _ _ _ rfl; exact (oc rfl (oc rfl (oc rfl (oc rfl on))))
  keep:=fun h _ _=>h
structure aX where
  o:Bool
  g:(List fZ)
  p:Int
  C:Int
def aC:aO aX where
  size:=4
  rel:=fun T w cs x=>∃ v1,cs=[.bool x.o,v1,.int .i64 x.p,.int .i64 x.C]/\aI gg T w v1 x.g
  len:=by rintro _ _ _ _ ⟨v1,rfl,hv1⟩; rfl
  one:=by rintro _ _ _ _ ⟨v1,rfl,hv1⟩; exact (oc rfl (oc hv1.one (oc rfl (oc rfl on))))
  keep:=by rintro _ _ _ _ _ _ ⟨v1,rfl,hv1⟩ k n; exact⟨v1,rfl,hv1.keep k n⟩
theorem Q1:aS aR 100=true:=by kernel_rfl
theorem OJ:aS aR 121=true:=by kernel_rfl
theorem Rp:aS aR 153=true:=by kernel_rfl
theorem J5:aS aR 26=true:=by kernel_rfl
theorem Ts:aS aR 35=true:=by kernel_rfl
theorem Tu:aS aR 41=true:=by kernel_rfl
theorem TH:aS aR 72=true:=by kernel_rfl
theorem oX:aS aR 73=true:=by kernel_rfl
theorem PS:aS aR 91=true:=by kernel_rfl
theorem Lh:DM aR 148=some (147,4,24):=by kernel_rfl
theorem NG:DM aR 34=some (150,4,48):=by kernel_rfl
theorem BG:DM aR 42=some (9,1,16):=by kernel_rfl
theorem R9:DM aR 64=some (153,3,40):=by kernel_rfl
theorem Pe:DN aR 147=some [(0,1),(1,1),(2,1),(3,1)]:=by kernel_rfl
theorem Jl:DN aR 150=some [(0,1),(1,1),(2,1),(3,1)]:=by kernel_rfl
theorem Sx:DN aR 153=some [(0,2),(2,1)]:=by kernel_rfl
theorem FJ:DN aR 30=some [(0,1),(1,1)]:=by kernel_rfl
theorem T6:DN aR 84=some [(0,1),(1,1)]:=by kernel_rfl
theorem MJ:n8 aR 148=some 147:=by kernel_rfl
theorem A2:n8 aR 34=some 150:=by kernel_rfl
theorem Kz:n8 aR 42=some 9:=by kernel_rfl
theorem MV:qT aR 147=some (true,4):=by kernel_rfl
theorem tY:qT aR 150=some (true,4):=by kernel_rfl
theorem EV:qT aR 153=some (true,3):=by kernel_rfl
theorem DJ:gF aR 147=some [.bool false,.bool false,.int .i64 0,.int .i64 0]:=by kernel_rfl
theorem we:gF aR 150=some [.bool false,.slice none 0 0,.int .i64 0,.int .i64 0]:=by kernel_rfl
theorem DK:gF aR 153=some [.int .i64 0,.string cr,.string cr]:=by kernel_rfl
theorem iS:gF aR 30=some [.int .i64 0,.string cr]:=by kernel_rfl
theorem Ud:gF aR 84=some [.slice none 0 0,.int .i64 0]:=by kernel_rfl
theorem QM:gF aR 9=some [.string cr]:=by kernel_rfl
theorem H2 {W:World} {M T E:Nat->Prop} {n:Nat} {G:List (Nat×Value)} {D:List cS} {F:List cL} {a:Act} {w:World} {d:Option Nat} {t2:TypeId} {x y:Operand} {ty:TypeId} {pos:String} {af:Array Edge} {g:Option (Nat×Bool)} {p0 q0:Int} {p1 q1:ByteArray} (I:St W M T n G D F a w) (hx:ev G x=some (.agg #[.int .i64 p0,.string p1])) (hy:ev G y=some (.agg #[.int .i64 q0,.string q1])):Ye aR ⟨d,.binOp .eql 30 x y t2,ty,pos,af,g⟩ a E w (.bool (p0==q0&&p1.toList==q1.toList)) :=
  Ye.of fun w=>by
    have h1:=I.ev hx
    have h2:=I.ev hy
    clear I hx hy
    simp only [execOp,h1,h2,eqGuard]
    simp [go_sem]
    (repeat' split) <;> simp_all
theorem CI {W:World} {M T E:Nat->Prop} {n:Nat} {G:List (Nat×Value)} {D:List cS} {F:List cL} {a:Act} {w:World} {d:Option Nat} {t2:TypeId} {x y:Operand} {ty:TypeId} {pos:String} {af:Array Edge} {g:Option (Nat×Bool)} {p0 q0:Int} {p1 q1:ByteArray} (I:St W M T n G D F a w) (hx:ev G x=some (.agg #[.int .i64 p0,.string p1])) (hy:ev G y=some (.agg #[.int .i64 q0,.string q1])):Ye aR ⟨d,.binOp .neq 30 x y t2,ty,pos,af,g⟩ a E w (.bool (!(p0==q0&&p1.toList==q1.toList))) :=
  Ye.of fun w=>by
    have h1:=I.ev hx
    have h2:=I.ev hy
    clear I hx hy
    simp only [execOp,h1,h2,eqGuard]
    simp [go_sem]
    (repeat' split) <;> simp_all
theorem Sb {W:World} {M T E:Nat->Prop} {n:Nat} {G:List (Nat×Value)} {D:List cS} {F:List cL} {a:Act} {w:World} {d:Option Nat} {t2:TypeId} {x y:Operand} {ty:TypeId} {pos:String} {af:Array Edge} {g:Option (Nat×Bool)} {p0 q0:Int} {p1 q1:ByteArray} {p2 q2:ByteArray} {p3 q3:Int} (I:St W M T n G D F a w) (hx:ev G x=some (.agg #[.int .i64 p0,.string p1,.string p2,.int .i64 p3])) (hy:ev G y=some (.agg #[.int .i64 q0,.string q1,.string q2,.int .i64 q3])):Ye aR ⟨d,.binOp .neq 91 x y t2,ty,pos,af,g⟩ a E w (.bool (!(p0==q0&&p1.toList==q1.toList&&p2.toList==q2.toList&&p3==q3))) :=
  Ye.of fun w=>by
    have h1:=I.ev hx
    have h2:=I.ev hy
    clear I hx hy
    simp only [execOp,h1,h2,eqGuard]
    simp [go_sem]
    (repeat' split) <;> simp_all
end
section
open Go.RowKit
theorem Q3:aS aR 111=true:=by kernel_rfl
theorem IV:aS aR 120=true:=by kernel_rfl
theorem uG:aS aR 143=true:=by kernel_rfl
theorem Ro:aS aR 149=true:=by kernel_rfl
theorem IZ:aS aR 150=true:=by kernel_rfl
theorem ON:aS aR 151=true:=by kernel_rfl
theorem Rs:aS aR 169=true:=by kernel_rfl
theorem RG:aS aR 187=true:=by kernel_rfl
theorem OR:aS aR 192=true:=by kernel_rfl
theorem Ns:aS aR 32=true:=by kernel_rfl
theorem Cp:aS aR 95=true:=by kernel_rfl
theorem HY:aS aR 96=true:=by kernel_rfl
theorem AH:aS aR 97=true:=by kernel_rfl
theorem NA:aS aR 98=true:=by kernel_rfl
theorem HZ:aS aR 99=true:=by kernel_rfl
theorem Mj:DN aR 91=some [(0,2),(2,1),(3,1)]:=by kernel_rfl
theorem KA:n8 aR 64=some 153:=by kernel_rfl
end
section
open Go.RowKit
structure cb where
  d:ah
  y:Bool
  s1:Int
  v:(List ah)
  q:(List ByteArray)
def aB:aO cb where
  size:=6
  rel:=fun T w cs x=>∃ v1 v2,cs=[.int .i64 x.d.k,.string x.d.t,.bool x.y,.int .i64 x.s1,v1,v2]/\aI ac T w v1 x.v/\aI aO.str T w v2 x.q
  len:=by rintro _ _ _ _ ⟨v1,v2,rfl,hv1,hv2⟩; rfl
  one:=by rintro _ _ _ _ ⟨v1,v2,rfl,hv1,hv2⟩; exact (oc rfl (oc rfl (oc rfl (oc rfl (oc hv1.one (oc hv2.one on))))))
  keep:=by rintro _ _ _ _ _ _ ⟨v1,v2,rfl,hv1,hv2⟩ k n; exact⟨v1,v2,rfl,hv1.keep k n,hv2.keep k n⟩
structure fj where
  a:(List aX)
  b:ao
  i1:(List ah)
  r1:(List cb)
  z:(List ah)
structure eB where
  x1:ah
  k1:ah
def iA:aO eB where
  size:=4
  rel:=fun _ _ cs x=>cs=[.int .i64 x.x1.k,.string x.x1.t,.int .i64 x.k1.k,.string x.k1.t]
  len:=by rintro _ _ _ _ rfl; rfl
  one:=by rintro _ _ _ _ rfl; exact (oc rfl (oc rfl (oc rfl (oc rfl on))))
  keep:=fun h _ _=>h
theorem Q4:aS aR 116=true:=by kernel_rfl
theorem KZ:aS aR 117=true:=by kernel_rfl
theorem OI:aS aR 119=true:=by kernel_rfl
theorem K3:aS aR 140=true:=by kernel_rfl
theorem Rt:aS aR 170=true:=by kernel_rfl
theorem OO:aS aR 171=true:=by kernel_rfl
theorem RD:aS aR 182=true:=by kernel_rfl
theorem OP:aS aR 183=true:=by kernel_rfl
theorem OU:aS aR 206=true:=by kernel_rfl
theorem O3:aS aR 246=true:=by kernel_rfl
theorem O4:aS aR 247=true:=by kernel_rfl
theorem PM:aS aR 38=true:=by kernel_rfl
theorem tK:aS aR 40=true:=by kernel_rfl
theorem J6:aS aR 92=true:=by kernel_rfl
theorem zD:DM aR 137=some (202,6,88):=by kernel_rfl
theorem O6:DM aR 253=some (257,4,48):=by kernel_rfl
theorem Fv:J8 aR 202 3=some 4:=by kernel_rfl
theorem Fw:J8 aR 202 4=some 5:=by kernel_rfl
theorem xX:Kh aR 166=some (30,4):=by kernel_rfl
theorem Mg:DN aR 139=some [(0,1),(1,3),(4,1),(5,1),(6,1)]:=by kernel_rfl
theorem SA:DN aR 257=some [(0,2),(2,2)]:=by kernel_rfl
theorem N1:DN aR 33=some [(0,2),(2,1),(3,1),(4,1),(5,1),(6,1),(7,1)]:=by kernel_rfl
theorem w8:n8 aR 137=some 202:=by kernel_rfl
theorem Pi:qT aR 137=some (false,1):=by kernel_rfl
theorem uX:qT aR 139=some (true,7):=by kernel_rfl
theorem xa:qT aR 202=some (true,6):=by kernel_rfl
theorem Iu:qT aR 42=some (false,1):=by kernel_rfl
theorem xl:gF aR 139=some [.slice none 0 0,.int .i64 0,.slice none 0 0,.slice none 0 0,.slice none 0 0,.slice none 0 0,.slice none 0 0]:=by kernel_rfl
theorem vc:gF aR 202=some [.int .i64 0,.string cr,.bool false,.int .i64 0,.slice none 0 0,.slice none 0 0]:=by kernel_rfl
theorem JT:gF aR 257=some [.int .i64 0,.string cr,.int .i64 0,.string cr]:=by kernel_rfl
theorem QN:Ps aR 4=some (.bool false):=by kernel_rfl
def aW (a b:ah):Bool:=a.k==b.k&&a.t.toList==b.t.toList
theorem fx:AE aR 30 ac true aW where
  check:=by
    rintro b T w0 w c x rfl
    show (Instr.checkKey b (Nat.succ (Nat.succ 9998)) 30 _).run aR w=_
    generalize 9998=N
    simp [Instr.checkKey,bL,go_sem]
  eq:=by
    rintro T T2 w0 w1 w c d x y rfl rfl
    unfold aW Op.equal
    show (Op.equalIn (Nat.succ (Nat.succ 9998)) 30 _ _).run aR w=_
    generalize 9998=N
    simp [Op.equalIn,bL,beq_toListBytes,go_sem]
    (try (repeat' split) <;> simp_all)
  now:=⟨_,Tryz.underlying30,by rintro T T2 w0 w1 c d x y rfl rfl; first | (exact .inl rfl) | (right; unfold aW; simp [bL,Instr.sameNow,beq_toListBytes])⟩
  bits:=by
    rintro T T2 w0 w1 c d x y rfl rfl h
    unfold aW at h
    show Instr.sameBits (Nat.succ (Nat.succ 9998)) _ _=_
    generalize 9998=N
    simp [bL,Instr.sameBits,beq_toListBytes] at h ⊢
    simp [h]
end
section
open Go.RowKit
structure az where
  a:(List aX)
  b:ao
  e:(List (ah×ByteArray))
  n:(List (ah×(List ah)))
structure uC where
  a1:Bool
  u:ByteArray
  l1:ah
theorem IU:aS aR 114=true:=by kernel_rfl
theorem Ru:aS aR 172=true:=by kernel_rfl
theorem zy:aS aR 173=true:=by kernel_rfl
theorem RE:aS aR 184=true:=by kernel_rfl
theorem OQ:aS aR 185=true:=by kernel_rfl
theorem K7:aS aR 207=true:=by kernel_rfl
theorem OV:aS aR 208=true:=by kernel_rfl
theorem I0:aS aR 210=true:=by kernel_rfl
theorem I1:aS aR 211=true:=by kernel_rfl
theorem K8:aS aR 222=true:=by kernel_rfl
theorem RR:aS aR 242=true:=by kernel_rfl
theorem RS:aS aR 243=true:=by kernel_rfl
theorem O2:aS aR 244=true:=by kernel_rfl
theorem uQ:Kh aR 220=some (30,9):=by kernel_rfl
theorem Sz:DN aR 223=some [(0,1),(1,3),(4,1),(5,1)]:=by kernel_rfl
theorem zS:DN aR 225=some [(0,1),(1,1),(2,2)]:=by kernel_rfl
theorem MK:n8 aR 253=some 257:=by kernel_rfl
theorem S8:gF aR 223=some [.slice none 0 0,.int .i64 0,.slice none 0 0,.slice none 0 0,.map none,.map none]:=by kernel_rfl
theorem qk:gF aR 225=some [.bool false,.string cr,.int .i64 0,.string cr]:=by kernel_rfl
theorem Pr:Ps aR 9=some (.string cr):=by kernel_rfl
end
section
open Go.RowKit
theorem KY:aS aR 113=true:=by kernel_rfl
theorem Ri:aS aR 141=true:=by kernel_rfl
theorem Rj:aS aR 142=true:=by kernel_rfl
theorem RF:aS aR 186=true:=by kernel_rfl
theorem I2:aS aR 212=true:=by kernel_rfl
theorem OW:aS aR 214=true:=by kernel_rfl
theorem OX:aS aR 215=true:=by kernel_rfl
theorem OY:aS aR 216=true:=by kernel_rfl
theorem OZ:aS aR 217=true:=by kernel_rfl
theorem O1:aS aR 223=true:=by kernel_rfl
theorem RQ:aS aR 224=true:=by kernel_rfl
theorem RT:aS aR 248=true:=by kernel_rfl
theorem Tt:aS aR 39=true:=by kernel_rfl
theorem Mi:DN aR 202=some [(0,2),(2,1),(3,1),(4,1),(5,1)]:=by kernel_rfl
theorem Hd:qT aR 257=some (true,4):=by kernel_rfl
end
section
open Go.RowKit
theorem OM:aS aR 144=true:=by kernel_rfl
theorem Rk:aS aR 145=true:=by kernel_rfl
theorem Rl:aS aR 146=true:=by kernel_rfl
theorem RH:aS aR 188=true:=by kernel_rfl
theorem K6:aS aR 189=true:=by kernel_rfl
theorem yN:DN aR 25=some [(0,1),(1,1),(2,1)]:=by kernel_rfl
end
section
open Go.RowKit
variable {pos:String} {af:Array Edge} {g:Option (Nat×Bool)}
section
variable {α β:Type} {RI:aO α} {R:aO β} {P:Nat->Prop} {W:World} {M T:Nat->Prop} {n:Nat} {G:List (Nat×Value)} {D D0 Dr rs:List cS} {F F0 F1:List cL} {a:Act} {w:World} {e:TypeId} {v1 v2:Value} {xs1:List α} {xs2:List β}
def sE (P:Nat->Prop) (F0:List cL) (R:aO β) (e:TypeId) (v2:Value) (xs2:List β):cL :=
  ⟨fun T w=>∃ cl,(cS.own v2 e R.size cl).ok w/\(∀ k,(cS.own v2 e R.size cl).dom k->¬ T k/\P k)/\aY R (dT T [.own v2 e R.size cl]) w cl xs2/\∀ f∈F0,f.p (dT T [.own v2 e R.size cl]) w,
   fun h k n=>by
    obtain⟨cl,h1,h2,h3,h4⟩:=h;have hn:∀ j,dT _ [.own v2 e R.size cl] j->dT _ [.own v2 e R.size cl] j∨_:=fun j hj=>by
      rcases hj with hj | hj
      · rcases n j hj with q | q
        · exact .inl (.inl q)
        · exact .inr q
      · exact .inl (.inr hj)
    exact⟨cl,cS.keep h1 fun j hj=>k.block j (cS.lt h1 j hj) (h2 j hj).1,fun j hj=>⟨fun hT=>by
      rcases n j hT with q | q
      · exact (h2 j hj).1 q
      · have:=cS.lt h1 j hj; omega,(h2 j hj).2⟩,h3.keep (k.mono fun j hj=>.inl hj) hn,fun f hf=>f.keep (h4 f hf) (k.mono fun j hj=>.inl hj) hn⟩⟩
theorem St.zg {cl:bK} (I:St W M T n G D F a w) (hP:∀ k,M k∨W.heap.size<=k->P k) (F0:List cL) (hF:Gh F F0) (i:Nat) (hi:D[i]? = some (.own v2 e R.size cl)) (j:Nat) (hj:F[j]? = some (ap R cl xs2)) :
    St W M T n G (D.eraseIdx i) (aT R v2 xs2::sE P F0 R e v2 xs2::F) a w:=by
  have hm:=aD hi;have h2:(sE P F0 R e v2 xs2).p (dT T (D.eraseIdx i)) w:=by
    have hn:∀ k,dT (dT T (D.eraseIdx i)) [.own v2 e R.size cl] k->dT T D k:=fun k O=>(nO hi k).1 O;refine⟨cl,I.own _ hm,fun k O=>⟨fun hT=>?_,hP k (I.free _ hm k O).2⟩,(show aY R (dT T D) w cl xs2 from I.get j hj).keep (aj _ _) fun k O=>.inl (hn k O),fun f hf=>f.keep (I.facts f (hF.mem f hf)) (aj _ _) fun k O=>.inl (hn k O)⟩;rcases hT with hT | ⟨s,hs,hT⟩
    · exact (I.free _ hm k O).1 hT
    · exact I.notD i hi O (.inr ⟨s,hs,hT⟩)
  have h3:=I.zf i hi j hj;refine⟨h3.size,h3.defers,h3.slots,h3.base,h3.own,h3.free,h3.apart,fun f hf=>?_,h3.tlt⟩;rcases dX.1 hf with rfl | hf
  · exact h3.facts _ xk
  · rcases dX.1 hf with rfl | hf
    · exact h2
    · exact h3.facts f (yl _ hf)
def Oy (F0:List cL) (f:cL):Prop:=∀ (T T':Nat->Prop) w,(∀ g∈F0,g.p T' w)->f.p T w->f.p T' w
theorem St.thawFr (I:St W M T n G D F a w) (i:Nat) (hi:F[i]? = some (sE P F0 R e v2 xs2)) (hP:∀ k,P k->M k∨W.heap.size<=k) (hF:∀ f∈F1,f∈F/\Oy F0 f) :
    ∃ cl,St W M T n G (.own v2 e R.size cl::D) (ap R cl xs2::(F1++F0)) a w:=by
  obtain⟨cl,h1,h2,h3,h4⟩:=(show (sE P F0 R e v2 xs2).p _ _ from I.get i hi);have hn:∀ k,dT T (.own v2 e R.size cl::D) k->dT (dT T D) [.own v2 e R.size cl] k:=fun k O=>by
    rcases O with O | ⟨s,hs,O⟩
    · exact .inl (.inl O)
    · rcases dX.1 hs with rfl | hs
      · exact .inr ⟨_,xk,O⟩
      · exact .inl (.inr ⟨s,hs,O⟩)
  have h5:∀ f∈F0,f.p (dT T (.own v2 e R.size cl::D)) w:=fun f hf=>f.keep (h4 f hf) (aj _ _) fun k O=>.inl (hn k O);refine⟨cl,I.size,I.defers,I.slots,I.base,fun r hr=>?_,fun r hr k O=>?_,List.Pairwise.cons (fun s hs k O hk2=>(h2 k O).1 (.inr ⟨s,hs,hk2⟩)) I.apart,fun f hf=>?_,I.tlt⟩
  · rcases dX.1 hr with rfl | hr
    · exact h1
    · exact I.own r hr
  · rcases dX.1 hr with rfl | hr
    · exact⟨fun hT=>(h2 k O).1 (.inl hT),hP k (h2 k O).2⟩
    · exact I.free r hr k O
  · rcases dX.1 hf with rfl | hf
    · exact h3.keep (aj _ _) fun k O=>.inl (hn k O)
    · rcases dw.1 hf with hf | hf
      · exact (hF f hf).2 _ _ _ h5 (I.facts f (hF f hf).1)
      · exact h5 f hf
theorem St.toP (I:St W M T n G (D0++Dr) F a w) (hP:∀ k,M k∨W.heap.size<=k->P k):∀ k,MD D0 k∨w.heap.size<=k->P k:=fun k O=>hP k (by
  rcases O with⟨r,hr,O⟩ | O
  · exact (I.free r (oA _ hr) k O).2
  · exact .inr (cN I.base.size O))
theorem cL.lent {i:Nat} {r:cS} (f:cL) (hi:D[i]? = some r) (h:f.p (dT T D) w):f.p (dT (dT T (D.eraseIdx i)) [r]) w :=
  f.keep h (aj _ _) fun k O=>.inl ((nO hi k).1 O)
theorem cL.back {i:Nat} {r r':cS} (f:cL) (hi:D[i]? = some r) (h:f.p (dT (dT T (D.eraseIdx i)) [r']) w):f.p (dT T (D.set i r')) w:=by
  refine f.keep h (aj _ _) fun k O=>.inl ?_;have hl:=(cu.1 hi).1;have:=(nO (T:=T) (D:=D.set i r') (i:=i) (r:=r') (by rw [E9 hl]) k).2 O;rwa [List.eraseIdx_set_eq] at this
theorem cL.up (f:cL) (hi:Nc D rs) (h:f.p (dT T D) w):f.p (dT T rs) w:=f.keep h (aj _ _) fun k O=>.inl (hi.sub k O)
theorem GE {R:aO β} (C:∀ (T T':Nat->Prop) w c x,R.rel T w c x->R.rel T' w c x) {cl:bK} {xs:List β}:Oy F0 (ap R cl xs):=by
  intro T T' w _ h;have h:aY R T w cl xs:=h;exact⟨h.1,fun k x hx=>by obtain⟨cs,h1,h2⟩:=h.2 k x hx; exact⟨cs,C _ _ _ _ _ h1,h2⟩⟩
end
section
variable {P:Program} {W:World} {M T E:Nat->Prop} {n:Nat} {G G':List (Nat×Value)} {D D' D0 Dr rs:List cS} {F F':List cL} {a:Act} {w w':World} {K:Act->World->Prop}
theorem zI {d:Nat} {ty:TypeId} {x:Operand} {args:Array Operand} {tys:Array TypeId} {f:Nat} {vs cap:bK} {R:Value->World->Prop} (I:St W M T n G (D0++Dr) F a w) (hx:ev G x=some (.func (.func f) #[] cap.toArray)) (hf:aS P f=true) (hargs:evs G args.toList=some vs) (hn:Nat.blt d n=true) (hc:bj P (MD D0) f (vs++cap) w R)
    (k:∀ v w',R v w'->∀ a,Kt (MD D0) w w'->(∀ rs,iq w w' D0 rs->St W M T n ((d,v)::G) (rs++Dr) F a w')->K a w'):sA P ⟨some d,.call { callee:=.value x,args:=args,argTypes:=tys },ty,pos,af,g⟩ a w K :=
  xp rfl I hx hf hargs hc fun v w' O hr=>k v w' hr _ O (fun rs h=>(I.swapD O h).put hn v)
end
end
section
open Go.RowKit
structure aQ where
  S:az
  B:ao
  m:(List (ah×Bool))
  z:(List ah)
  E:Int
theorem K0:aS aR 118=true:=by kernel_rfl
theorem Rv:aS aR 174=true:=by kernel_rfl
theorem Rw:aS aR 175=true:=by kernel_rfl
theorem RM:aS aR 213=true:=by kernel_rfl
theorem Mh:DN aR 180=some [(0,1),(1,3),(4,1),(5,1),(6,1)]:=by kernel_rfl
theorem Pj:qT aR 173=some (false,1):=by kernel_rfl
theorem SW:qT aR 43=some (false,1):=by kernel_rfl
theorem M8:gF aR 180=some [.pointer none,.int .i64 0,.slice none 0 0,.slice none 0 0,.map none,.slice none 0 0,.int .i64 0]:=by kernel_rfl
end
section
open Go.RowKit
theorem RX:aS aR 27=true:=by kernel_rfl
theorem PK:aS aR 29=true:=by kernel_rfl
theorem PL:aS aR 30=true:=by kernel_rfl
theorem Nt:aS aR 36=true:=by kernel_rfl
theorem RY:aS aR 37=true:=by kernel_rfl
theorem Tv:aS aR 42=true:=by kernel_rfl
theorem PR:aS aR 87=true:=by kernel_rfl
theorem TR:aS aR 88=true:=by kernel_rfl
theorem TS:aS aR 89=true:=by kernel_rfl
theorem TU:aS aR 90=true:=by kernel_rfl
end
section
open Go.RowKit
structure df where
  d1:Int
  b1:Int
structure da where
  d:ah
  j:df
def cj:aO da where
  size:=4
  rel:=fun _ _ cs x=>cs=[.int .i64 x.d.k,.string x.d.t,.int .i64 x.j.d1,.int .u64 x.j.b1]
  len:=by rintro _ _ _ _ rfl; rfl
  one:=by rintro _ _ _ _ rfl; exact (oc rfl (oc rfl (oc rfl (oc rfl on))))
  keep:=fun h _ _=>h
structure aq where
  d:ah
  v:(List da)
  u:ByteArray
  h:Int
def au:aO aq where
  size:=5
  rel:=fun T w cs x=>∃ v1,cs=[.int .i64 x.d.k,.string x.d.t,v1,.string x.u,.int .i64 x.h]/\aI cj T w v1 x.v
  len:=by rintro _ _ _ _ ⟨v1,rfl,hv1⟩; rfl
  one:=by rintro _ _ _ _ ⟨v1,rfl,hv1⟩; exact (oc rfl (oc rfl (oc hv1.one (oc rfl (oc rfl on)))))
  keep:=by rintro _ _ _ _ _ _ ⟨v1,rfl,hv1⟩ k n; exact⟨v1,rfl,hv1.keep k n⟩
theorem IW:aS aR 127=true:=by kernel_rfl
theorem OL:aS aR 134=true:=by kernel_rfl
theorem Rc:aS aR 135=true:=by kernel_rfl
theorem Rd:aS aR 136=true:=by kernel_rfl
theorem Rf:aS aR 137=true:=by kernel_rfl
theorem J4:aS aR 22=true:=by kernel_rfl
theorem yw:aS aR 54=true:=by kernel_rfl
theorem Lb:aS aR 55=true:=by kernel_rfl
theorem Nv:aS aR 56=true:=by kernel_rfl
theorem R1:aS aR 57=true:=by kernel_rfl
theorem Nx:aS aR 58=true:=by kernel_rfl
theorem Ny:aS aR 59=true:=by kernel_rfl
theorem TI:aS aR 74=true:=by kernel_rfl
theorem TJ:aS aR 75=true:=by kernel_rfl
theorem R5:aS aR 82=true:=by kernel_rfl
theorem tc:DM aR 48=some (51,5,72):=by kernel_rfl
theorem Li:DM aR 49=some (128,4,40):=by kernel_rfl
theorem AK:DM aR 61=some (5,1,1):=by kernel_rfl
theorem G0:DN aR 105=some [(0,1),(1,1)]:=by kernel_rfl
theorem Pd:DN aR 128=some [(0,2),(2,2)]:=by kernel_rfl
theorem SB:DN aR 51=some [(0,2),(2,1),(3,1),(4,1)]:=by kernel_rfl
theorem A3:n8 aR 48=some 51:=by kernel_rfl
theorem Ip:n8 aR 49=some 128:=by kernel_rfl
theorem ye:qT aR 103=some (false,1):=by kernel_rfl
theorem JB:qT aR 105=some (true,2):=by kernel_rfl
theorem Dy:qT aR 128=some (true,4):=by kernel_rfl
theorem wm:qT aR 51=some (true,5):=by kernel_rfl
theorem AB:gF aR 105=some [.int .i64 0,.int .u64 0]:=by kernel_rfl
theorem ym:gF aR 128=some [.int .i64 0,.string cr,.int .i64 0,.int .u64 0]:=by kernel_rfl
theorem Pq:gF aR 5=some [.int .u8 0]:=by kernel_rfl
theorem uy:gF aR 51=some [.int .i64 0,.string cr,.slice none 0 0,.string cr,.int .i64 0]:=by kernel_rfl
end
section
open Go.RowKit
variable {A B:Prop} {S:Type} {k:Nat} {p:Int} {r:cS} {v0 v1 v10 v3 v4 v5 v6 v7 v8 v9:Value} {w':World}
variable {pos:String} {af:Array Edge} {g:Option (Nat×Bool)}
class uA (P:Program) (t:TypeId) (b:outParam Bool) (z:outParam Nat):Prop where
 h:qT P t=some (b,z)
class nZ (P:Program) (s:TypeId) (f:Nat) (k:outParam Nat):Prop where
 h:J8 P s f=some k
class HH (P:Program) (t:TypeId) (e:outParam TypeId):Prop where
 h:n8 P t=some e
class OC (P:Program) (t:TypeId) (u:outParam TypeDesc):Prop where
 h:P.underlying t=some u
theorem fD {D:List cL} {r:cL} (h:∃ i:Nat,D[i]? = some r:=by first | exact⟨0,rfl⟩ | exact⟨1,rfl⟩ | exact⟨2,rfl⟩ | exact⟨3,rfl⟩ | exact⟨4,rfl⟩ | exact⟨5,rfl⟩ | exact⟨6,rfl⟩ | exact⟨7,rfl⟩ | exact⟨8,rfl⟩ | exact⟨9,rfl⟩ | exact⟨10,rfl⟩ | exact⟨11,rfl⟩ | exact⟨12,rfl⟩ | exact⟨13,rfl⟩ | exact⟨14,rfl⟩ | exact⟨15,rfl⟩ | exact⟨16,rfl⟩ | exact⟨17,rfl⟩ | exact⟨18,rfl⟩ | exact⟨19,rfl⟩ | exact⟨20,rfl⟩ | exact⟨21,rfl⟩ | exact⟨22,rfl⟩ | exact⟨23,rfl⟩ | exact⟨24,rfl⟩ | exact⟨25,rfl⟩ | exact⟨26,rfl⟩ | exact⟨27,rfl⟩ | exact⟨28,rfl⟩ | exact⟨29,rfl⟩):∃ i:Nat,D[i]? = some r:=h
theorem fR {D:List cS} (h:∃ i:Nat,D[i]? = some r:=by first | exact⟨0,rfl⟩ | exact⟨1,rfl⟩ | exact⟨2,rfl⟩ | exact⟨3,rfl⟩ | exact⟨4,rfl⟩ | exact⟨5,rfl⟩ | exact⟨6,rfl⟩ | exact⟨7,rfl⟩ | exact⟨8,rfl⟩ | exact⟨9,rfl⟩ | exact⟨10,rfl⟩ | exact⟨11,rfl⟩ | exact⟨12,rfl⟩ | exact⟨13,rfl⟩ | exact⟨14,rfl⟩ | exact⟨15,rfl⟩ | exact⟨16,rfl⟩ | exact⟨17,rfl⟩ | exact⟨18,rfl⟩ | exact⟨19,rfl⟩ | exact⟨20,rfl⟩ | exact⟨21,rfl⟩ | exact⟨22,rfl⟩ | exact⟨23,rfl⟩ | exact⟨24,rfl⟩ | exact⟨25,rfl⟩ | exact⟨26,rfl⟩ | exact⟨27,rfl⟩ | exact⟨28,rfl⟩ | exact⟨29,rfl⟩):∃ i:Nat,D[i]? = some r:=h
theorem zh (i:Nat) {D:List cS} {r:Option cS} (h:D[i]? = r):D[i]? = r:=h
theorem fI {D:List cS} {i:Nat} (h:D[i]? = some r:=by first | (refine zh 0 ?_; exact rfl) | (refine zh 1 ?_; exact rfl) | (refine zh 2 ?_; exact rfl) | (refine zh 3 ?_; exact rfl) | (refine zh 4 ?_; exact rfl) | (refine zh 5 ?_; exact rfl) | (refine zh 6 ?_; exact rfl) | (refine zh 7 ?_; exact rfl) | (refine zh 8 ?_; exact rfl) | (refine zh 9 ?_; exact rfl) | (refine zh 10 ?_; exact rfl) | (refine zh 11 ?_; exact rfl) | (refine zh 12 ?_; exact rfl) | (refine zh 13 ?_; exact rfl) | (refine zh 14 ?_; exact rfl) | (refine zh 15 ?_; exact rfl) | (refine zh 16 ?_; exact rfl) | (refine zh 17 ?_; exact rfl) | (refine zh 18 ?_; exact rfl) | (refine zh 19 ?_; exact rfl) | (refine zh 20 ?_; exact rfl) | (refine zh 21 ?_; exact rfl) | (refine zh 22 ?_; exact rfl) | (refine zh 23 ?_; exact rfl) | (refine zh 24 ?_; exact rfl) | (refine zh 25 ?_; exact rfl) | (refine zh 26 ?_; exact rfl) | (refine zh 27 ?_; exact rfl) | (refine zh 28 ?_; exact rfl) | (refine zh 29 ?_; exact rfl)):D[i]? = some r:=h
theorem kn {c b:Bool} (h:c=b:=by first | assumption | exact rfl | exact nt (by assumption) | exact nf (by assumption)):c=b:=h
def Tk (Z o:Nat) (cs us:bK):Prop:=(cs.drop o).take Z=us/\us.length=Z
def Cl (Z:Nat) (v:Value) (us:bK):Prop:=v.cells.toList=us/\us.length=Z
theorem UI {o:Nat} {cs:bK} (h:(cs.drop o).take 1=[v0]):Tk 1 o cs [v0]:=⟨h,rfl⟩
theorem Uk {v:Value} (h:v.cells.toList=[v0]):Cl 1 v [v0]:=⟨h,rfl⟩
theorem UJ {o:Nat} {cs:bK} (h:(cs.drop o).take 2=[v0,v1]):Tk 2 o cs [v0,v1]:=⟨h,rfl⟩
theorem DL {v:Value} (h:v.cells.toList=[v0,v1]):Cl 2 v [v0,v1]:=⟨h,rfl⟩
theorem UK {o:Nat} {cs:bK} {v2:Value} (h:(cs.drop o).take 3=[v0,v1,v2]):Tk 3 o cs [v0,v1,v2]:=⟨h,rfl⟩
theorem dG {v v2:Value} (h:v.cells.toList=[v0,v1,v2]):Cl 3 v [v0,v1,v2]:=⟨h,rfl⟩
theorem UL {o:Nat} {cs:bK} {v2:Value} (h:(cs.drop o).take 4=[v0,v1,v2,v3]):Tk 4 o cs [v0,v1,v2,v3]:=⟨h,rfl⟩
theorem sG {v v2:Value} (h:v.cells.toList=[v0,v1,v2,v3]):Cl 4 v [v0,v1,v2,v3]:=⟨h,rfl⟩
theorem UM {o:Nat} {cs:bK} {v2:Value} (h:(cs.drop o).take 5=[v0,v1,v2,v3,v4]):Tk 5 o cs [v0,v1,v2,v3,v4]:=⟨h,rfl⟩
theorem vl {v v2:Value} (h:v.cells.toList=[v0,v1,v2,v3,v4]):Cl 5 v [v0,v1,v2,v3,v4]:=⟨h,rfl⟩
theorem UN {o:Nat} {cs:bK} {v2:Value} (h:(cs.drop o).take 6=[v0,v1,v2,v3,v4,v5]):Tk 6 o cs [v0,v1,v2,v3,v4,v5]:=⟨h,rfl⟩
theorem Bm {v v2:Value} (h:v.cells.toList=[v0,v1,v2,v3,v4,v5]):Cl 6 v [v0,v1,v2,v3,v4,v5]:=⟨h,rfl⟩
theorem UO {o:Nat} {cs:bK} {v2:Value} (h:(cs.drop o).take 7=[v0,v1,v2,v3,v4,v5,v6]):Tk 7 o cs [v0,v1,v2,v3,v4,v5,v6]:=⟨h,rfl⟩
theorem sT {v v2:Value} (h:v.cells.toList=[v0,v1,v2,v3,v4,v5,v6]):Cl 7 v [v0,v1,v2,v3,v4,v5,v6]:=⟨h,rfl⟩
theorem UP {o:Nat} {cs:bK} {v2:Value} (h:(cs.drop o).take 8=[v0,v1,v2,v3,v4,v5,v6,v7]):Tk 8 o cs [v0,v1,v2,v3,v4,v5,v6,v7]:=⟨h,rfl⟩
theorem Cq {v v2:Value} (h:v.cells.toList=[v0,v1,v2,v3,v4,v5,v6,v7]):Cl 8 v [v0,v1,v2,v3,v4,v5,v6,v7]:=⟨h,rfl⟩
theorem UQ {o:Nat} {cs:bK} {v2:Value} (h:(cs.drop o).take 9=[v0,v1,v2,v3,v4,v5,v6,v7,v8]):Tk 9 o cs [v0,v1,v2,v3,v4,v5,v6,v7,v8]:=⟨h,rfl⟩
theorem KI {v v2:Value} (h:v.cells.toList=[v0,v1,v2,v3,v4,v5,v6,v7,v8]):Cl 9 v [v0,v1,v2,v3,v4,v5,v6,v7,v8]:=⟨h,rfl⟩
theorem T8 {o:Nat} {cs:bK} {v2:Value} (h:(cs.drop o).take 10=[v0,v1,v2,v3,v4,v5,v6,v7,v8,v9]):Tk 10 o cs [v0,v1,v2,v3,v4,v5,v6,v7,v8,v9]:=⟨h,rfl⟩
theorem s7 {v v2:Value} (h:v.cells.toList=[v0,v1,v2,v3,v4,v5,v6,v7,v8,v9]):Cl 10 v [v0,v1,v2,v3,v4,v5,v6,v7,v8,v9]:=⟨h,rfl⟩
theorem T9 {o:Nat} {cs:bK} {v2:Value} (h:(cs.drop o).take 11=[v0,v1,v2,v3,v4,v5,v6,v7,v8,v9,v10]):Tk 11 o cs [v0,v1,v2,v3,v4,v5,v6,v7,v8,v9,v10]:=⟨h,rfl⟩
theorem TV {v v2:Value} (h:v.cells.toList=[v0,v1,v2,v3,v4,v5,v6,v7,v8,v9,v10]):Cl 11 v [v0,v1,v2,v3,v4,v5,v6,v7,v8,v9,v10]:=⟨h,rfl⟩
theorem Ua {o:Nat} {cs:bK} {v2 v11:Value} (h:(cs.drop o).take 12=[v0,v1,v2,v3,v4,v5,v6,v7,v8,v9,v10,v11]):Tk 12 o cs [v0,v1,v2,v3,v4,v5,v6,v7,v8,v9,v10,v11]:=⟨h,rfl⟩
theorem vj {v v2 v11:Value} (h:v.cells.toList=[v0,v1,v2,v3,v4,v5,v6,v7,v8,v9,v10,v11]):Cl 12 v [v0,v1,v2,v3,v4,v5,v6,v7,v8,v9,v10,v11]:=⟨h,rfl⟩
theorem Uu {Z o:Nat} {cs us:bK} (h:Tk Z o cs us:=by first | ((with_reducible apply UI); exact rfl) | ((with_reducible apply UJ); exact rfl) | ((with_reducible apply UK); exact rfl) | ((with_reducible apply UL); exact rfl) | ((with_reducible apply UM); exact rfl) | ((with_reducible apply UN); exact rfl) | ((with_reducible apply UO); exact rfl) | ((with_reducible apply UP); exact rfl) | ((with_reducible apply UQ); exact rfl) | ((with_reducible apply T8); exact rfl) | ((with_reducible apply T9); exact rfl) | ((with_reducible apply Ua); exact rfl)):Tk Z o cs us:=h
theorem T4 {W:World} {M T:Nat->Prop} {n:Nat} {G:List (Nat×Value)} {D:List cS} {F:List cL} {v:Value} {a:Act} {w:World} {e:TypeId} {sz:Nat} {cl:bK} (I:St W M T n G D F a w) (h:∃ i:Nat,D[i]? = some (.own v e sz cl)):v.oneCell'=true:=ik (I.own _ (aD h.choose_spec)).1
theorem T5 {W:World} {M T:Nat->Prop} {n:Nat} {G:List (Nat×Value)} {D:List cS} {F:List cL} {v:Value} {a:Act} {w:World} {α:Type} {R:aO α} {xs:List α} (I:St W M T n G D F a w) (h:∃ i:Nat,F[i]? = some (aT R v xs)):v.oneCell'=true:=aI.one (I.get h.choose h.choose_spec:aI R _ _ _ _)
theorem Ss {v:Value} (h:v.oneCell'=true:=by first | exact rfl | exact T4 I fR | exact T5 I fD):v.oneCell'=true:=h
theorem PT {Z:Nat} {v:Value} {us:bK} (h:Cl Z v us:=by first | ((with_reducible apply Uk); exact rfl) | ((with_reducible apply DL); exact rfl) | ((with_reducible apply dG); exact rfl) | ((with_reducible apply sG); exact rfl) | ((with_reducible apply vl); exact rfl) | ((with_reducible apply Bm); exact rfl) | ((with_reducible apply sT); exact rfl) | ((with_reducible apply Cq); exact rfl) | ((with_reducible apply KI); exact rfl) | ((with_reducible apply s7); exact rfl) | ((with_reducible apply TV); exact rfl) | ((with_reducible apply vj); exact rfl) | ((with_reducible apply Uk); exact mF Ss)):Cl Z v us:=h
theorem Sr {us:bK} (h:∀ u∈us,u.oneCell'=true:=by repeat (first | exact on | refine oc Ss ?_)):∀ u∈us,u.oneCell'=true:=h
def SQ (P:Program) (z:Code) (Q:Exit->Act->World->Prop):Exit->Act->World->Prop:=Exit.then (z.wp P Q) Q
section
variable {P:Program} {W:World} {M T:Nat->Prop} {n:Nat} {F:List cL}
def Yv (P:Program) (W:World) (M T:Nat->Prop) (n:Nat) (G:List (Nat×Value)) (D:List cS) (F:List cL) (E:Nat->Prop) (op:Op) (v:Value):Prop :=
 ∀ a w d ty pos af g,St W M T n G D F a w->Ye P ⟨d,op,ty,pos,af,g⟩ a E w v
section
variable {G:List (Nat×Value)} {D:List cS} {E:Nat->Prop} {x y z:Operand} {v:Value} {t t' s:TypeId}
theorem Yv.mv (hx:ev G x=some v):Yv P W M T n G D F E (.move x) v:=fun _ _ _ _ _ _ _ I=>M4 I hx
theorem Yv.as (hx:ev G x=some v):Yv P W M T n G D F E (.assign x) v:=fun _ _ _ _ _ _ _ I=>Ho I hx
theorem Yv.bi {op:BinOp} {k:IntKind} {q:Int} (hx:ev G x=some (.int k p)) (hy:ev G y=some (.int k q)) (hv:PZ op k p q=some v):Yv P W M T n G D F E (.binOp op t x y t') v:=fun _ _ _ _ _ _ _ I=>Hr I hx hy hv
theorem Yv.bs {op:BinOp} {p q:ByteArray} (hx:ev G x=some (.string p)) (hy:ev G y=some (.string q)) (hv:Qu op p q=some v):Yv P W M T n G D F E (.binOp op t x y t') v:=fun _ _ _ _ _ _ _ I=>S4 I hx hy hv
theorem Yv.no {b:Bool} (hx:ev G x=some (.bool b)):Yv P W M T n G D F E (.unOp .not t x) (.bool !b):=fun _ _ _ _ _ _ _ I=>S1 I hx
theorem Yv.ng {k:IntKind} (hx:ev G x=some (.int k p)):Yv P W M T n G D F E (.unOp .neg t x) (.int k (k.wrap (0-p))):=fun _ _ _ _ _ _ _ I=>SZ I hx
theorem Yv.ex {i:Nat} {vs:Array Value} (hx:ev G x=some (.tuple vs)) (hv:vs[i]? = some v):Yv P W M T n G D F E (.extract x i) v:=fun _ _ _ _ _ _ _ I=>Uc I hx hv
theorem Yv.nl {p:Addr} (hx:ev G x=some (.pointer (some p))):Yv P W M T n G D F E (.nilCheck x) (.pointer (some p)):=fun _ _ _ _ _ _ _ I=>S0 I hx
theorem Yv.fl {f b o:Nat} [c:nZ P s f k] (hx:ev G x=some (.pointer (some ⟨b,o,none⟩))):Yv P W M T n G D F E (.fieldAddr s x f) (.pointer (some ⟨b,o+k,none⟩)):=fun _ _ _ _ _ _ _ I=>Hq I hx c.h
theorem Yv.pt {b:Bool} (hz:ev G z=some (.bool b)) (hb:b=true) (hx:ev G x=some v):Yv P W M T n G D F E (.pick z x y) v:=fun _ _ _ _ _ _ _ I=>Oo I hz hb hx
theorem Yv.pf {b:Bool} (hz:ev G z=some (.bool b)) (hb:b=false) (hy:ev G y=some v):Yv P W M T n G D F E (.pick z x y) v:=fun _ _ _ _ _ _ _ I=>On I hz hb hy
theorem Yv.cv {k k' ks:IntKind} [hs:OC P s (.int ks)] [ht:OC P t (.int k')] (hx:ev G x=some (.int k p)):Yv P W M T n G D F E (.convert s t x) (.int k' (k'.wrap p)):=fun _ _ _ _ _ _ _ I=>QE I hx hs.h ht.h
theorem Yv.ls {p:ByteArray} [ht:OC P t .string] (hx:ev G x=some (.string p)):Yv P W M T n G D F E (.call { callee:=.builtin .len,args:=#[x],argTypes:=#[t] }) (.int .i64 p.size):=fun _ _ _ _ _ _ _ I=>QF I ht.h hx
theorem Yv.ll {e:TypeId} {α:Type} {R:aO α} {xs:List α} [ht:HH P t e] (hx:ev G x=some v) (hF:∃ i:Nat,F[i]? = some (aT R v xs)):Yv P W M T n G D F E (.call { callee:=.builtin .len,args:=#[x],argTypes:=#[t] }) (.int .i64 xs.length):=fun _ _ _ _ _ _ _ I=>Pp I ht.h hx hF.choose hF.choose_spec
theorem Yv.lo {e e':TypeId} {cl:bK} {α:Type} {R:aO α} {xs:List α} [ht:HH P t e] (hx:ev G x=some v) (hD:∃ j:Nat,D[j]? = some (.own v e' R.size cl)) (hF:∃ i:Nat,F[i]? = some (ap R cl xs)):Yv P W M T n G D F E (.call { callee:=.builtin .len,args:=#[x],argTypes:=#[t] }) (.int .i64 xs.length):=fun _ _ _ _ _ _ _ I=>M2 I ht.h hx hD.choose hD.choose_spec hF.choose hF.choose_spec
theorem Yv.la {Z b o:Nat} {cs us:bK} {bt:TypeId} [c:uA P t true Z] (hx:ev G x=some (.pointer (some ⟨b,o,none⟩))) (hD:∃ i:Nat,D[i]? = some (.box b cs bt)) (hE:¬ E b) (hu:Tk Z o cs us):Yv P W M T n G D F E (.load t x) (.agg us.toArray):=fun _ _ _ _ _ _ _ I=>eA I hx c.h hD.choose hD.choose_spec hE hu.1 hu.2 (fun h=>by cases h)
theorem Yv.l1 {b o:Nat} {cs:bK} {bt:TypeId} [c:uA P t false 1] (hx:ev G x=some (.pointer (some ⟨b,o,none⟩))) (hD:∃ i:Nat,D[i]? = some (.box b cs bt)) (hE:¬ E b) (hu:(cs.drop o).take 1=[v]):Yv P W M T n G D F E (.load t x) v:=fun _ _ _ _ _ _ _ I=>eA (us:=[v]) I hx c.h hD.choose hD.choose_spec hE hu rfl (fun _=>rfl)
theorem Yv.ca {Z b o p:Nat} {cs us:bK} [c:uA P t true Z] (hx:ev G x=some (.pointer (some ⟨b,p,none⟩))) (hF:∃ i:Nat,F[i]? = some (fb b o cs)) (hp:o+k=p) (hE:∀ a w,St W M T n G D F a w->∀ j,E j->dT T D j∨w.heap.size<=j) (hu:Tk Z k cs us):Yv P W M T n G D F E (.load t x) (.agg us.toArray):=fun a w _ _ _ _ _ I=>by
 subst hp;exact xG I c.h hF.choose hF.choose_spec hx (hE a w I) hu.1 hu.2 (fun h=>by cases h)
theorem Yv.c1 {b o p:Nat} {cs:bK} [c:uA P t false 1] (hx:ev G x=some (.pointer (some ⟨b,p,none⟩))) (hF:∃ i:Nat,F[i]? = some (fb b o cs)) (hp:o+k=p) (hE:∀ a w,St W M T n G D F a w->∀ j,E j->dT T D j∨w.heap.size<=j) (hu:(cs.drop k).take 1=[v]):Yv P W M T n G D F E (.load t x) v:=fun a w _ _ _ _ _ I=>by
 subst hp;exact xG (us:=[v]) I c.h hF.choose hF.choose_spec hx (hE a w I) hu rfl (fun _=>rfl)
theorem Um {ops:Array Oper} {mods:List (Nat×Tn)} {ls:Array Bool} {i:Nat} (h:rem ops mods ls i=[]:=by first | exact rfl | kernel_rfl):¬ Eo (rem ops mods ls i) k:=by rw [h]; exact cc
theorem Un {ops:Array Oper} {mods:List (Nat×Tn)} {ls:Array Bool} {i:Nat} (h:rem ops mods ls i=[]:=by first | exact rfl | kernel_rfl):∀ a w,St W M T n G D F a w->∀ j,Eo (rem ops mods ls i) j->dT T D j∨w.heap.size<=j:=by rw [h]; exact fun _ _ _=>Ft
theorem Yv.e {d:Option Nat} {ty:TypeId} {op:Op} {a:Act} {w:World} (h:Yv P W M T n G D F E op v) (I:St W M T n G D F a w):Ye P ⟨d,op,ty,pos,af,g⟩ a E w v:=h a w d ty pos af g I
theorem yA {op:Op} (h:Yv P W M T n G D F E op v:=by
 first
  | ((with_reducible apply Yv.mv); exact rfl)
  | ((with_reducible apply Yv.bi); exact rfl; exact rfl; exact rfl)
  | ((with_reducible apply Yv.as); exact rfl)
  | ((with_reducible apply Yv.fl); exact rfl)
  | ((with_reducible apply Yv.l1); exact rfl; exact fR; (first | exact id | exact Um); exact rfl)
  | ((with_reducible apply Yv.la); exact rfl; exact fR; (first | exact id | exact Um); exact Uu)
  | ((with_reducible apply Yv.c1); exact rfl; exact fD; (first | exact qi _ | exact rfl | exact (y5 _ _ _).symm); (first | exact (fun _ _ _ _ h=>h.elim) | exact Un); exact rfl)
  | ((with_reducible apply Yv.ca); exact rfl; exact fD; (first | exact qi _ | exact rfl | exact (y5 _ _ _).symm); (first | exact (fun _ _ _ _ h=>h.elim) | exact Un); exact Uu)
  | ((with_reducible apply Yv.pt); exact rfl; exact kn; exact rfl)
  | ((with_reducible apply Yv.pf); exact rfl; exact kn; exact rfl)
  | ((with_reducible apply Yv.ex); exact rfl; exact rfl)
  | ((with_reducible apply Yv.no); exact rfl)
  | ((with_reducible apply Yv.nl); exact rfl)
  | ((with_reducible apply Yv.bs); exact rfl; exact rfl; exact rfl)
  | ((with_reducible apply Yv.ll); exact rfl; exact fD)
  | ((with_reducible apply Yv.lo); exact rfl; exact fR; exact fD)
  | ((with_reducible apply Yv.ls); exact rfl)
  | ((with_reducible apply Yv.cv); exact rfl)
  | ((with_reducible apply Yv.ng); exact rfl)):Yv P W M T n G D F E op v:=h
end
def Rn (W:World) (M T:Nat->Prop) (n:Nat) (F:List cL) (b:Bool) (G:List (Nat×Value)) (D:List cS) (X:Act->World->Prop) (G':List (Nat×Value)) (D':List cS) (X':Act->World->Prop):Prop :=
 ∀ w,(∀ a w',(b=true->w'=w)->St W M T n G' D' F a w'->X' a w')->∀ a,St W M T n G D F a w->X a w
section
variable {b:Bool} {G G':List (Nat×Value)} {D D':List cS} {X X' K:Act->World->Prop} {Q:Exit->Act->World->Prop} {ops:Array Oper} {l:List Oper} {op:Op} {v:Value} {d j t:Nat} {ty tt:TypeId} {pos:String} {af:Array Edge} {want c:Bool} {x y z:Code} {id:Nat} {u:Operand}
theorem Rn.fin:Rn W M T n F b G D X G D X:=fun w k a I=>k a w (fun _=>rfl) I
theorem Rn.yv (h:Yv P W M T n G D F No op v) (hn:Nat.blt d n=true) (k:Rn W M T n F b ((d,v)::G) D (wpList P ops Q l) G' D' X'):Rn W M T n F b G D (wpList P ops Q (⟨some d,op,ty,pos,af,none⟩::l)) G' D' X' :=
 fun w K a I=>wy I (h a w _ _ _ _ _ I) rfl rfl hn fun a I=>k w K a I
def QR (u:Value) (want:Bool) (A B:Prop):Prop:=(∃ c,u = .bool c/\c=want/\A)∨(((∃ c,u = .bool c/\c = !want)∨u=undef)/\B)
theorem TZ (h:c=want) (k:A):QR (.bool c) want A B:=.inl ⟨c,rfl,h,k⟩
theorem TY (h:c = !want) (k:B):QR (.bool c) want A B:=.inr ⟨.inl ⟨c,rfl,h⟩,k⟩
theorem T0 (k:B):QR undef want A B:=.inr ⟨.inr rfl,k⟩
theorem IA {o:Oper} {g:Option (Nat×Bool)} {a:Act} {w:World} {rest:List Oper} (h:wpList P ops Q ({ o with guard:=none } :: rest) a w) (hw:Region.wanted { o with guard:=g } (yielded ops a.tmps)=true):wpList P ops Q ({ o with guard:=g } :: rest) a w:=by
 unfold wpList at h ⊢;rw [if_pos hw];rw [if_pos (by simp [Region.wanted])] at h;exact h
theorem Rn.gd {uv:Value} (hj:(ops[j]?).bind (·.dst)=some t) (ht:lk G t=some uv) (hn:Nat.blt d n=true)
  (k:QR uv want (Rn W M T n F b G D (wpList P ops Q (⟨some d,op,ty,pos,af,none⟩::l)) G' D' X') (Rn W M T n F b ((d,undef)::G) D (wpList P ops Q l) G' D' X')):Rn W M T n F b G D (wpList P ops Q (⟨some d,op,ty,pos,af,some (j,want)⟩::l)) G' D' X':=by
 intro w K a I;rcases k with⟨c,h1,h2,k⟩|⟨h1 | h1,k⟩
 ·subst h1;exact IA (o:=⟨some d,op,ty,pos,af,none⟩) (k w K a I) (by rw [s6 I rfl hj ht,h2]; simp)
 ·obtain⟨c,h1,h2⟩:=h1;subst h1;exact wn I rfl hj ht h2 rfl hn fun a I=>k w K a I
 ·subst h1;exact UR I rfl hj ht rfl hn fun a I=>k w K a I
theorem Rn.st {ag:Bool} {Z bb o:Nat} {cs us:bK} {bt:TypeId} {xx yy:Operand} [ct:uA P tt ag Z] {i:Nat} (hx:ev G xx=some (.pointer (some ⟨bb,o,none⟩))) (hi:D[i]? = some (.box bb cs bt)) (hy:ev G yy=some v)
  (h1:∀ a w,St W M T n G D F a w->Cl Z v us) (h2:∀ a w,St W M T n G D F a w->∀ u∈us,u.oneCell'=true) (hl:Nat.ble (o+Z) cs.length=true) (k:Rn W M T n F false G (D.set i (.box bb (pr cs o us) bt)) (wpList P ops Q l) G' D' X'):Rn W M T n F false G D (wpList P ops Q (⟨none,.store tt xx yy,ty,pos,af,none⟩::l)) G' D' X' :=
 fun w K a I=>wl rfl (vt I hx hy (h1 a w I).1 ct.h i hi (h1 a w I).2 hl (h2 a w I) fun w O I=>k w (fun a w' _ I=>K a w' (fun h=>by cases h) I) _ I)
theorem aA {a:Act} {w:World} (h:x.wp P (SQ P z Q) a w):(Code.seq x z).wp P Q a w:=wp_seq h
theorem Rn.rq (hg:(l.all fun o=>o.guard.isNone)=true) (k:Rn W M T n F b G D (wpList P l.toArray (SQ P z Q) l) G' D' X'):Rn W M T n F b G D (Code.wp P (Code.seq (Code.region id l.toArray false) z) Q) G' D' X':=fun w K a I=>wp_seq (wp_region_lit (k w K a I))
theorem dW {l:List Oper} {a:Act} {w:World} (h:wpList P l.toArray (SQ P z Q) l a w):(Code.seq (Code.region id l.toArray false) z).wp P Q a w:=wp_seq (wp_region_lit h)
theorem Rn.rl (k:Rn W M T n F b G D (wpList P l.toArray Q l) G' D' X'):Rn W M T n F b G D (Code.wp P (Code.region id l.toArray false) Q) G' D' X':=fun w K a I=>wp_region_lit (k w K a I)
theorem Rn.rz (k:Rn W M T n F b G D (Q .normal) G' D' X'):Rn W M T n F b G D (wpList P ops Q []) G' D' X':=fun w K a I=>wpList_nil (k w K a I)
theorem Rn.sq (k:Rn W M T n F b G D (z.wp P Q) G' D' X'):Rn W M T n F b G D (SQ P z Q .normal) G' D' X':=k
theorem Rn.th (k:Rn W M T n F b G D (K) G' D' X'):Rn W M T n F b G D (Exit.then K Q .normal) G' D' X':=k
theorem Rn.ib (k:Rn W M T n F b G D (Q .normal) G' D' X'):Rn W M T n F b G D (Exit.inBlock id Q .normal) G' D' X':=k
theorem Rn.sk (k:Rn W M T n F b G D (Q .normal) G' D' X'):Rn W M T n F b G D (Code.wp P .skip Q) G' D' X':=fun w K a I=>wp_skip (k w K a I)
theorem Rn.bl (k:Rn W M T n F b G D (x.wp P (Exit.inBlock id Q)) G' D' X'):Rn W M T n F b G D (Code.wp P (.block id x) Q) G' D' X':=fun w K a I=>wp_block (k w K a I)
theorem Rn.ct (hu:ev G u=some (.bool c)) (hc:c=true) (k:Rn W M T n F b G D (x.wp P Q) G' D' X'):Rn W M T n F b G D (Code.wp P (.cond u x y) Q) G' D' X':=fun w K a I=>Uj I hu hc (k w K a I)
theorem Rn.cf (hu:ev G u=some (.bool c)) (hc:c=false) (k:Rn W M T n F b G D (y.wp P Q) G' D' X'):Rn W M T n F b G D (Code.wp P (.cond u x y) Q) G' D' X':=fun w K a I=>Tp I hu hc (k w K a I)
theorem Rn.xt (k:Rn W M T n F b G D (Q (.exit j)) G' D' X'):Rn W M T n F b G D (Code.wp P (.exit j) Q) G' D' X':=fun w K a I=>wp_exit (k w K a I)
theorem Rn.rt (k:Rn W M T n F b G D (Q .ret) G' D' X'):Rn W M T n F b G D (Code.wp P .ret Q) G' D' X':=fun w K a I=>wp_ret (k w K a I)
theorem Rn.sqr (k:Rn W M T n F b G D (Q .ret) G' D' X'):Rn W M T n F b G D (SQ P z Q .ret) G' D' X':=k
theorem Rn.sqe (k:Rn W M T n F b G D (Q (.exit j)) G' D' X'):Rn W M T n F b G D (SQ P z Q (.exit j)) G' D' X':=k
theorem Rn.thr (k:Rn W M T n F b G D (Q .ret) G' D' X'):Rn W M T n F b G D (Exit.then K Q .ret) G' D' X':=k
theorem Rn.the (k:Rn W M T n F b G D (Q (.exit j)) G' D' X'):Rn W M T n F b G D (Exit.then K Q (.exit j)) G' D' X':=k
theorem Rn.ibr (k:Rn W M T n F b G D (Q .ret) G' D' X'):Rn W M T n F b G D (Exit.inBlock id Q .ret) G' D' X':=k
theorem Rn.ibt (h:Nat.beq j id=true) (k:Rn W M T n F b G D (Q .normal) G' D' X'):Rn W M T n F b G D (Exit.inBlock id Q (.exit j)) G' D' X':=fun w K a I=>by
 have h2:=k w K a I;simp only [Exit.inBlock];rw [if_pos (xf h)]; exact h2
theorem Rn.ibf (h:Nat.beq j id=false) (k:Rn W M T n F b G D (Q (.exit j)) G' D' X'):Rn W M T n F b G D (Exit.inBlock id Q (.exit j)) G' D' X':=fun w K a I=>by
 have h2:=k w K a I;simp only [Exit.inBlock];rw [if_neg (fun e=>by rw [e] at h; simp at h)]; exact h2
theorem Uz (h:Rn W M T n F b G D X G' D' X':=by
 repeat (first
 | ((with_reducible apply Rn.yv); exact yA; exact rfl)
 | ((with_reducible apply Rn.gd); exact rfl; exact rfl; exact rfl; (first | apply T0 | (apply TZ; exact kn; (first | ((with_reducible apply Rn.yv); exact yA; exact rfl) | ((with_reducible apply Rn.st); exact rfl; exact fI; exact rfl; exact (fun a w I=>PT); exact (fun a w I=>Sr); exact rfl))) | (apply TY; exact kn)))
 | ((with_reducible apply Rn.st); exact rfl; exact fI; exact rfl; exact (fun a w I=>PT); exact (fun a w I=>Sr); exact rfl)
 | (with_reducible apply Rn.rz)
 | (with_reducible apply Rn.sq)
 | (with_reducible apply Rn.th)
 | (with_reducible apply Rn.ib)
 | (with_reducible apply Rn.sk)
 | ((with_reducible apply Rn.ct); exact rfl; exact kn)
 | ((with_reducible apply Rn.cf); exact rfl; exact kn))
 exact Rn.fin):Rn W M T n F b G D X G' D' X':=h
theorem QX (h:Rn W M T n F b G D X G' D' X':=by
 repeat (first
 | ((with_reducible apply Rn.yv); exact yA; exact rfl)
 | ((with_reducible apply Rn.gd); exact rfl; exact rfl; exact rfl; (first | apply T0 | (apply TZ; exact kn; (first | ((with_reducible apply Rn.yv); exact yA; exact rfl) | ((with_reducible apply Rn.st); exact rfl; exact fI; exact rfl; exact (fun a w I=>PT); exact (fun a w I=>Sr); exact rfl))) | (apply TY; exact kn)))
 | ((with_reducible apply Rn.st); exact rfl; exact fI; exact rfl; exact (fun a w I=>PT); exact (fun a w I=>Sr); exact rfl)
 | (with_reducible apply Rn.rz)
 | ((with_reducible apply Rn.rq); exact rfl)
 | (with_reducible apply Rn.sq)
 | (with_reducible apply Rn.th)
 | (with_reducible apply Rn.ib)
 | (with_reducible apply Rn.sk)
 | (with_reducible apply Rn.bl)
 | ((with_reducible apply Rn.ct); exact rfl; exact kn)
 | ((with_reducible apply Rn.cf); exact rfl; exact kn)
 | (with_reducible apply Rn.rl)
 | (with_reducible apply Rn.rt)
 | (with_reducible apply Rn.xt)
 | (with_reducible apply Rn.sqr)
 | (with_reducible apply Rn.thr)
 | (with_reducible apply Rn.ibr)
 | (with_reducible apply Rn.sqe)
 | (with_reducible apply Rn.the)
 | ((with_reducible apply Rn.ibt); exact rfl)
 | ((with_reducible apply Rn.ibf); exact rfl))
 exact Rn.fin):Rn W M T n F b G D X G' D' X':=h
def Uq (ops:Array Oper) (listed:Array Bool) (i:Nat):Bool:=Region.free .any ops listed i&&(Region.ready .any ops listed).contains i
def Re (P:Program) (ops:Array Oper) (Q:Exit->Act->World->Prop) (mods:List (Nat×Tn)) (W:World) (M T:Nat->Prop) (n:Nat) (D:List cS) (F:List cL) (is:List Nat) (fuel:Nat) (ls:Array Bool) (G:List (Nat×Value)) (fuel':Nat) (ls':Array Bool) (G':List (Nat×Value)):Prop :=
 ∀ a w,Region.noSelect ops=true->Qp Q->St W M T n G D F a w->(∀ a,St W M T n G' D F a w->tZ P ops Q mods fuel' ls' a w)->tZ P ops Q mods fuel ls a w
section
variable {mods:List (Nat×Tn)} {fuel fuel' i:Nat} {ls ls':Array Bool} {is:List Nat}
theorem Re.en:Re P ops Q mods W M T n D F [] fuel ls G fuel ls G:=fun a w _ _ I k=>k a I
theorem Re.va {f:Nat} (hfu:fuel=f+1) (hi:ops[i]? = some ⟨some d,op,ty,pos,af,none⟩) (h:Yv P W M T n G D F (Eo (rem ops mods ls i)) op v) (hn:Nat.blt d n=true) (hr:Uq ops ls i=true) (k:Re P ops Q mods W M T n D F is f (ls.setIfInBounds i true) ((d,v)::G) fuel' ls' G'):Re P ops Q mods W M T n D F (i::is) fuel ls G fuel' ls' G' :=
 fun a w hs hQ I K=>hfu▸dy i hi hs (Bool.and_eq_true_iff.1 hr).1 (Bool.and_eq_true_iff.1 hr).2 rfl hQ I (h a w _ _ _ _ _ I) rfl rfl hn fun a I=>k a w hs hQ I K
theorem Re.gu {uv:Value} {f:Nat} (hfu:fuel=f+1) (hi:ops[i]? = some ⟨some d,op,ty,pos,af,some (j,want)⟩) (hj:(ops[j]?).bind (·.dst)=some t) (ht:lk G t=some uv) (hn:Nat.blt d n=true) (hr:Uq ops ls i=true)
  (k:QR uv want (∃ v,Yv P W M T n G D F (Eo (rem ops mods ls i)) op v/\Re P ops Q mods W M T n D F is f (ls.setIfInBounds i true) ((d,v)::G) fuel' ls' G') (Re P ops Q mods W M T n D F is f (ls.setIfInBounds i true) ((d,undef)::G) fuel' ls' G')):Re P ops Q mods W M T n D F (i::is) fuel ls G fuel' ls' G':=by
 intro a w hs hQ I K;subst hfu;have h1:=Bool.and_eq_true_iff.1 hr;rcases k with⟨c,e1,e2,v,h,k⟩|⟨e1 | e1,k⟩
 ·subst e1;exact Ul i hi hs h1.1 h1.2 rfl hQ I (h a w _ _ _ _ _ I) rfl hj ht e2 rfl hn fun a I=>k a w hs hQ I K
 ·obtain⟨c,e1,e2⟩:=e1;subst e1;exact UB i hi hs h1.1 h1.2 hQ I rfl hj ht e2 rfl hn fun a I=>k a w hs hQ I K
 ·subst e1;exact TX i hi hs h1.1 h1.2 hQ I rfl hj ht rfl hn fun a I=>k a w hs hQ I K
theorem gE (is:List Nat) {a:Act} {w:World} (I:St W M T n G D F a w) (k:∀ a,St W M T n G' D F a w->tZ P ops Q mods fuel' ls' a w) (h:Re P ops Q mods W M T n D F is fuel ls G fuel' ls' G':=by
 repeat (first
 | ((with_reducible apply Re.va); exact rfl; exact rfl; exact yA; exact rfl; kernel_rfl)
 | ((with_reducible apply Re.gu); exact rfl; exact rfl; exact rfl; exact rfl; exact rfl; kernel_rfl; (first | apply T0 | (apply TZ; exact kn; refine⟨_,yA,?_⟩) | (apply TY; exact kn))))
 exact Re.en) (hs:Region.noSelect ops=true:=by kernel_rfl) (hQ:Qp Q:=by assumption):tZ P ops Q mods fuel ls a w:=h a w hs hQ I k
end
def DQ (F:List cL):List Nat->List cL->Prop
 | _,[]=>True
 | [],_::_=>False
 | j::js,f::F'=>F[j]? = some f/\DQ F js F'
theorem DQ.to {F:List cL}:∀ {js:List Nat} {F':List cL},DQ F js F'->Gh F F'
 | _,[],_=>trivial
 | [],_::_,h=>h.elim
 | j::js,f::F',h=>⟨⟨j,h.1⟩,h.2.to⟩
theorem UH {F:List cL}:DQ F [] []:=trivial
theorem UG {F F':List cL} {j:Nat} {js:List Nat} {f:cL} (h:F[j]? = some f) (k:DQ F js F'):DQ F (j::js) (f::F'):=⟨h,k⟩
theorem Ut {F F':List cL} {js:List Nat} (h:DQ F js F':=by repeat (first | exact UH | (apply UG; exact rfl))):DQ F js F':=h
theorem Us:pq D [] []:=trivial
theorem Ur {i:Nat} {is:List Nat} (h:D[i]? = some r) (k:pq D is D'):pq D (i::is) (r::D'):=⟨h,k⟩
theorem SN {is:List Nat} (h:pq D is D':=by repeat (first | exact Us | (apply Ur; exact rfl))):pq D is D':=h
theorem pq.app:∀ {is js:List Nat} {D0 D1:List cS},pq D is D0->pq D js D1->pq D (is++js) (D0++D1)
 | [],_,[],_,_,k=>k
 | [],_,_::_,_,h,_=>h.elim
 | _::_,_,[],_,h,_=>h.elim
 | _::_,_,_::_,_,h,k=>⟨h.1,pq.app h.2 k⟩
section
variable {F':List cL} {a:Act} {w:World} {D0 D1:List cS} {α β:Type} {R:aO α} {R2:aO β} {xs:List α} {ys:List β} {vv v2:Value} {cl DL:bK} {e e2:TypeId}
theorem St.mt (h:St W M T n G D F a w) (is js:List Nat) (hG:OA G G':=by repeat (first | exact trivial | refine⟨rfl,?_⟩)) (hD:pq D is D':=by exact SN) (hF:DQ F js F':=by exact Ut) (hn:is.Nodup:=by decide):St W M T n G' D' F' a w:=h.meet is hn hG hD hF.to
theorem St.sl (h:St W M T n G D F a w) (is js:List Nat) (hD:pq D is D':=by exact SN) (hF:DQ F js F':=by exact Ut) (hn:is.Nodup:=by decide):St W M T n [] D' F' a w:=h.meet is hn trivial hD hF.to
theorem St.rd (h:St W M T n G D F a w) (is:List Nat) (hD:pq D is D':=by exact SN) (hn:is.Nodup:=by decide):St W M T n G D' F a w:=h.reD is hn hD
theorem St.re (h:St W M T n G D F a w) (is js:List Nat) (h0:pq D is D0:=by exact SN) (h1:pq D js D1:=by exact SN) (hn:(is++js).Nodup:=by decide):St W M T n G (D0++D1) F a w:=h.reD (is++js) hn (h0.app h1)
theorem St.fS (h:St W M T n G D F a w) (k:aI R (dT T D) w vv xs):St W M T n G D (aT R vv xs::F) a w:=h.fact (aT R vv xs) k
theorem St.fR (h:St W M T n G D F a w) (k:aY R (dT T D) w cl xs):St W M T n G D (ap R cl xs::F) a w:=h.fact (ap R cl xs) k
theorem St.fM {κ ν:Type} {RK:aO κ} {ak:Bool} {RV:aO ν} {av:Bool} {es:Array MapEntry} {ms:List (κ×ν)} (h:St W M T n G D F a w) (k:co RK ak RV av (dT T D) w es ms):St W M T n G D (rD RK ak RV av es ms::F) a w:=h.fact (rD RK ak RV av es ms) k
theorem eL (U:∀ rs:List cS,(∀ r∈rs,r.ok w'/\∀ k,r.dom k->w.heap.size<=k)->(rs.Pairwise fun r s=>∀ k,r.dom k->¬ s.dom k)->St W M T n G (rs++D) F a w'):St W M T n G D F a w':=U [] (fun r hr=>by cases hr) sD
theorem vd (U:∀ rs:List cS,(∀ r∈rs,r.ok w'/\∀ k,r.dom k->w.heap.size<=k)->(rs.Pairwise fun r s=>∀ k,r.dom k->¬ s.dom k)->St W M T n G (rs++D) F a w') (h:kJ R (dT T D) w w' [.own vv e R.size cl] e vv cl xs) (h0:0<R.size:=by decide):St W M T n G ([.own vv e R.size cl]++D) (ap R cl xs::F) a w' :=
 (U [.own vv e R.size cl] (kv ⟨h.1,h0⟩ h.2.1) (AD _)).fact (ap R cl xs) (h.2.2.keep (aj _ _) (qo _))
theorem AC (U:∀ rs:List cS,(∀ r∈rs,r.ok w'/\∀ k,r.dom k->w.heap.size<=k)->(rs.Pairwise fun r s=>∀ k,r.dom k->¬ s.dom k)->St W M T n G (rs++D) F a w') (h:kJ R (dT T D) w w' [.own vv e R.size cl,.own v2 e2 R2.size DL] e vv cl xs) (k:kJ R2 (dT T D) w w' [.own vv e R.size cl,.own v2 e2 R2.size DL] e2 v2 DL ys) (hp:∀ k,vv.ownBlock=some k->v2.ownBlock≠some k) (h0:0<R.size:=by decide) (k0:0<R2.size:=by decide):St W M T n G ([.own vv e R.size cl,.own v2 e2 R2.size DL]++D) (ap R2 DL ys::ap R cl xs::F) a w' :=
 ((U [.own vv e R.size cl,.own v2 e2 R2.size DL] (QY ⟨h.1,h0⟩ h.2.1 ⟨k.1,k0⟩ k.2.1) (UE hp)).fact (ap R cl xs) (h.2.2.keep (aj _ _) (qo _))).fact (ap R2 DL ys) (k.2.2.keep (aj _ _) (qo _))
theorem UF {is:List Nat} (h:pq D is D':=by repeat (first | exact Us | (apply Ur; exact fI))):pq D is D':=h
theorem St.mtS {is:List Nat} (h:St W M T n G D F a w) (hG:OA G G':=by repeat (first | exact trivial | refine⟨rfl,?_⟩)) (hD:pq D is D':=by exact UF) (hF:Gh F F':=by repeat (first | exact trivial | refine⟨fD,?_⟩)) (hn:is.Nodup:=by decide):St W M T n G' D' F' a w:=h.meet is hn hG hD hF
end
theorem lo {R Y:Type} {u r:R} {f:Fl S R} {k:R->Option Y} {y:Y} (B:some (Fl.out u)=some f) (hf:∀ u,f = .out u->u=r) (O:k r=some y):k u=some y:=by
 rw [hf u (cC B).symm]; exact O
theorem Sp {R Y S2:Type} {s:S2} {r:Fl S2 R} {f:Fl S (Fl S2 R)} {p:S2->Option Y} {q:R->Option Y} {y:Y} (B:some (Fl.out (Fl.go s))=some f) (hf:∀ u,f = .out u->u=r) (O:Fl.el r p q=some y):p s=some y:=by
 have h:=hf _ (cC B).symm;subst h; exact O
theorem O7 {R Y S2:Type} {s:R} {r:Fl S2 R} {f:Fl S (Fl S2 R)} {p:S2->Option Y} {q:R->Option Y} {y:Y} (B:some (Fl.out (Fl.out s))=some f) (hf:∀ u,f = .out u->u=r) (O:Fl.el r p q=some y):q s=some y:=by
 have h:=hf _ (cC B).symm;subst h; exact O
theorem cd {α:Type} {b:Bool} {x y r:α} (h:cond b x y=r):(b=true/\x=r)∨(b=false/\y=r):=by cases b <;> simp_all
theorem go {a:Act} {w:World} (I:St W M T n G D F a w) (k:∀ a w,St W M T n G' D' F a w->X' a w) (h:Rn W M T n F false G D X G' D' X':=by exact QX):X a w:=h w (fun a w' _ I=>k a w' I) a I
theorem HI {a:Act} {w:World} (I:St W M T n G D F a w) (k:∀ a,St W M T n G' D' F a w->X' a w) (h:Rn W M T n F true G D X G' D' X':=by exact Uz):X a w:=h w (fun a w' e I=>by cases e rfl; exact k a I) a I
theorem al {a:Act} {w:World} (I:St W M T n G D F a w) (k:∀ a,St W M T n G' D' F a w->X' a w) (h:Rn W M T n F true G D X G' D' X':=by exact QX):X a w:=h w (fun a w' e I=>by cases e rfl; exact k a I) a I
section
variable {a:Act} {w:World} {E:Nat->Prop} {o:Oper} {fuel:Nat} {ls:Array Bool} {mods:List (Nat×Tn)} {cs us:bK} {ag:Bool} {Z bb off:Nat} {bt e:TypeId} {xx yy X Y:Operand} {g:Option (Nat×Bool)} {args:Array Operand} {tys:Array TypeId} {f:Nat} {vs:bK} {R:Value->World->Prop} {fn:Func}
theorem en {c:Code} {L:World} {av:bK} (hf:P.funcs[f]? = some fn) (hn:fn.ntmps=n) (hT:∀ k,T k->k<L.heap.size) (h:∀ a,St L M T n (n3 0 av) [] [] a L->c.wp P (bodyPost P fn (QW M L R)) a L) (hb:fn.body=some c:=by rfl) (hl:Nat.ble av.length n=true:=by rfl):bj P M f av L R:=enter hf hb T n hn hT hl h
theorem ka (I:St W M T n G D F a w) (hz:gF P tt=some cs) (k:∀ b,w.heap.size<=b->∀ a w',Kt No w w'->St W M T n ((d,.pointer (some ⟨b,0,none⟩))::G) (.box b cs tt::D) F a w'->wpList P ops Q l a w') (hn:Nat.blt d n=true:=by rfl):wpList P ops Q (⟨some d,.alloc tt,ty,pos,af,none⟩::l) a w:=wl rfl (dZ I hz hn k)
theorem kb (I:St W M T n G D F a w) (k:∀ b,w.heap.size<=b->∀ a w',Kt No w w'->St W M T n ((d,.pointer (some ⟨b,0,none⟩))::G) (.box b cs tt::D) F a w'->wpList P ops Q l a w') (hx:ev G X=some v:=by rfl) (hv:Cl Z v cs:=by exact PT) (hn:Nat.blt d n=true:=by rfl):wpList P ops Q (⟨some d,.box tt X,ty,pos,af,none⟩::l) a w:=wl rfl (Jb I hx hv.1 hn k)
theorem kc (I:St W M T n G D F a w) (hf:aS P f=true) (hc:bj P No f vs w R)
  (k:∀ v w',R v w'->∀ a,Kt No w w'->(∀ rs:List cS,(∀ r∈rs,r.ok w'/\∀ k,r.dom k->w.heap.size<=k)->(rs.Pairwise fun r s=>∀ k,r.dom k->¬ s.dom k)->St W M T n ((d,v)::G) (rs++D) F a w')->wpList P ops Q l a w') (hargs:evs G args.toList=some vs:=by rfl) (hn:Nat.blt d n=true:=by rfl):wpList P ops Q (⟨some d,.call { callee:=.value (.func f),args:=args,argTypes:=tys },ty,pos,af,none⟩::l) a w:=wl rfl (bP I hf hargs hn hc k)
theorem kE (I:St W M T n G D F a w) (hf:aS P f=true) (hc:bj P No f vs w (fun v _=>v=v0)) (k:∀ w' a,St W M T n ((d,v0)::G) D F a w'->wpList P ops Q l a w') (hargs:evs G args.toList=some vs:=by rfl) (hn:Nat.blt d n=true:=by rfl):wpList P ops Q (⟨some d,.call { callee:=.value (.func f),args:=args,argTypes:=tys },ty,pos,af,none⟩::l) a w :=
 kc I hf hc (fun v w' C a _ U=>by subst C; exact k w' a (eL U)) hargs hn
theorem kF (I:St W M T n G D F a w) (hf:aS P f=true) (hc:bj P No f vs w (fun v _=>v=v0)) (k:∀ w' a,St W M T n G' D' F a w'->X' a w') (hargs:evs G args.toList=some vs:=by rfl) (hn:Nat.blt d n=true:=by rfl) (h:Rn W M T n F true ((d,v0)::G) D (fun a w=>wpList P ops Q l a w) G' D' X':=by exact QX):wpList P ops Q (⟨some d,.call { callee:=.value (.func f),args:=args,argTypes:=tys },ty,pos,af,none⟩::l) a w :=
 kE I hf hc (fun w' a I=>al I (k w') h) hargs hn
theorem kA {X:Act->World->Prop} (I:St W M T n G D F a w) (hz:gF P tt=some cs) (k:∀ b,w.heap.size<=b->∀ a w',Kt No w w'->St W M T n ((d,.pointer (some ⟨b,0,none⟩))::G') (.box b cs tt::D') F a w'->wpList P ops Q l a w') (h:Rn W M T n F true G D X G' D' (fun a w=>wpList P ops Q (⟨some d,.alloc tt,ty,pos,af,none⟩::l) a w):=by exact QX) (hn:Nat.blt d n=true:=by rfl):X a w:=al I (fun a I=>ka I hz k hn) h
theorem kB {X:Act->World->Prop} {X0:Operand} (I:St W M T n G D F a w) (k:∀ b,w.heap.size<=b->∀ a w',Kt No w w'->St W M T n ((d,.pointer (some ⟨b,0,none⟩))::G') (.box b cs tt::D') F a w'->wpList P ops Q l a w') (h:Rn W M T n F true G D X G' D' (fun a w=>wpList P ops Q (⟨some d,.box tt X0,ty,pos,af,none⟩::l) a w):=by exact QX) (hx:ev G' X0=some v:=by rfl) (hv:Cl Z v cs:=by exact PT) (hn:Nat.blt d n=true:=by rfl):X a w:=al I (fun a I=>kb I k hx hv hn) h
theorem e1 (i:Nat) (h:sA P o a w (fun a' w'=>Oz mods i w w'/\tZ P ops Q mods fuel (ls.setIfInBounds i true) a' w')) (hi:ops[i]? = some o:=by rfl) (hr:Region.ready .any ops ls=[i]:=by kernel_rfl) (hg:o.guard=none:=by rfl):tZ P ops Q mods (fuel+1) ls a w:=vO hi hr hg h
theorem ec (i:Nat) (I:St W M T n G D F a w) (hf:aS P f=true) (hc:bj P No f vs w R)
  (k:∀ v w',R v w'->∀ a,Kt No w w'->(∀ rs:List cS,(∀ r∈rs,r.ok w'/\∀ k,r.dom k->w.heap.size<=k)->(rs.Pairwise fun r s=>∀ k,r.dom k->¬ s.dom k)->St W M T n ((d,v)::G) (rs++D) F a w')->tZ P ops Q mods fuel (ls.setIfInBounds i true) a w') (hi:ops[i]? = some ⟨some d,.call { callee:=.value (.func f),args:=args,argTypes:=tys },ty,pos,af,none⟩:=by rfl) (hr:Region.ready .any ops ls=[i]:=by kernel_rfl) (hargs:evs G args.toList=some vs:=by rfl) (hn:Nat.blt d n=true:=by rfl):tZ P ops Q mods (fuel+1) ls a w :=
 vO hi hr rfl (bP I hf hargs hn hc fun v w' C a O U=>⟨iJ O,k v w' C a O U⟩)
theorem es (i:Nat) [ct:uA P tt ag Z] {q:Nat} (I:St W M T n G D F a w) (k:∀ w',St W M T n G (D.set q (.box bb (pr cs off us) bt)) F a w'->tZ P ops Q mods fuel (ls.setIfInBounds i true) a w') (hi:ops[i]? = some ⟨none,.store tt xx yy,ty,pos,af,none⟩:=by rfl) (hr:Region.ready .any ops ls=[i]:=by kernel_rfl) (hx:ev G xx=some (.pointer (some ⟨bb,off,none⟩)):=by rfl) (hD:D[q]? = some (.box bb cs bt):=by exact fI) (hy:ev G yy=some v:=by rfl) (h1:Cl Z v us:=by exact PT) (h2:∀ u∈us,u.oneCell'=true:=by exact Sr) (hl:Nat.ble (off+Z) cs.length=true:=by rfl) (hm:yL mods i=[.blk (some bb)]:=by rfl):tZ P ops Q mods (fuel+1) ls a w :=
 vO hi hr rfl (vt I hx hy h1.1 ct.h q hD h1.2 hl h2 fun w' O I=>⟨lw hm O jW,k w' I⟩)
theorem eD (h:Q .normal a w) (hr:Region.ready .any ops ls=[]:=by kernel_rfl):tZ P ops Q mods fuel ls a w:=Hm hr h fuel
theorem dr {N:Nat} (mods:List (Nat×Tn)) (I:St W M T n G D F a w) (h:∀ w,Qp Q->St W M T n G D F a w->tZ P l.toArray Q mods N (Array.replicate N false) a w) (hm:P.follows .mixedOrders=true:=by exact mixed) (hN:l.length=N:=by rfl) (hQ:Qp Q:=by exact (fun c a d v w h=>by cases d <;> exact h)):(Code.region id l.toArray true).wp P Q a w:=O5 mods I hm hN hQ h
theorem rC [ct:uA P tt ag Z] {c:Nat} (i:Nat) (I:St W M T n G D F a w) (hv:lk G c=some (.pointer (some ⟨bb,0,none⟩)):=by rfl) (hi:D[i]? = some (.box bb cs bt):=by rfl) (hl:cs.length=Z:=by rfl) (hz:ag=false->Z=1:=by first | exact (fun h=>by cases h) | exact fun _=>rfl):xO P a w [.cell c tt] [bL ag cs]:=bB I hv i hi ct.h hl hz aF
end
theorem fin {p:Prop} (h:p:=by
 first
 | ((repeat (apply BA)); exact⟨I.mtS,B⟩)
 | (refine⟨_,(cC B).symm,?_⟩; (repeat (apply BA)); exact⟨rfl,I.mtS⟩)
 | (cases B; exact aH I rfl (aw I rfl aF) rfl)
 | (have B:=Sp B hf1 hMo1; first | ((repeat (apply BA)); exact⟨I.mtS,B⟩) | (cases B; exact aH I rfl (aw I rfl aF) rfl))
 | (have B:=O7 B hf1 hMo1; first | ((repeat (apply BA)); exact⟨I.mtS,B⟩) | (cases B; exact aH I rfl (aw I rfl aF) rfl))
 | (have B:=lo B hf1 hMo1; first | ((repeat (apply BA)); exact⟨I.mtS,B⟩) | (cases B; exact aH I rfl (aw I rfl aF) rfl))
 | (have B:=Sp B hf2 hMo2; first | ((repeat (apply BA)); exact⟨I.mtS,B⟩) | (cases B; exact aH I rfl (aw I rfl aF) rfl))
 | (have B:=O7 B hf2 hMo2; first | ((repeat (apply BA)); exact⟨I.mtS,B⟩) | (cases B; exact aH I rfl (aw I rfl aF) rfl))
 | (have B:=lo B hf2 hMo2; first | ((repeat (apply BA)); exact⟨I.mtS,B⟩) | (cases B; exact aH I rfl (aw I rfl aF) rfl))):p:=h
theorem fz {p:Prop} (h:p:=by
 refine go I fun a w I=>?_
 repeat' (first | exact fin | (rcases cd B with⟨_,B⟩|⟨_,B⟩ <;> refine go I fun a w I=>?_))):p:=h
end
end
section
variable {P:Program} {W:World} {M T:Nat->Prop} {n:Nat} {G G':List (Nat×Value)} {D D':List cS} {F F':List cL} {a:Act} {w:World} {ops:Array Oper} {Q:Exit->Act->World->Prop} {fuel:Nat} {listed:Array Bool} {mods:List (Nat×Tn)} {l:List Tn} {o:Oper} {v:Value} {d j t:Nat} {want c:Bool}
theorem dq (i:Nat) (I:St W M T n G D F a w) (h:Ye P o a (Eo l) w v) (k:∀ a,St W M T n ((d,v)::G) D F a w->tZ P ops Q mods fuel (listed.setIfInBounds i true) a w) (hQ:Qp Q:=by assumption) (hi:ops[i]? = some o:=by rfl) (hg:o.guard=none:=by rfl) (hd:o.dst=some d:=by rfl) (hn:Nat.blt d n=true:=by rfl)
  (hb:rem ops mods listed i=l:=by first | rfl | kernel_rfl) (hs:Region.noSelect ops=true:=by kernel_rfl) (hf:Region.free .any ops listed i=true:=by kernel_rfl) (hr:(Region.ready .any ops listed).contains i=true:=by kernel_rfl):tZ P ops Q mods (fuel+1) listed a w:=dy i hi hs hf hr hb hQ I h hg hd hn k
theorem dg (i:Nat) (I:St W M T n G D F a w) (hc:c=want) (h:Ye P o a (Eo l) w v) (k:∀ a,St W M T n ((d,v)::G) D F a w->tZ P ops Q mods fuel (listed.setIfInBounds i true) a w) (hQ:Qp Q:=by assumption) (hi:ops[i]? = some o:=by rfl) (hg:o.guard=some (j,want):=by rfl) (hj:(ops[j]?).bind (·.dst)=some t:=by rfl) (ht:lk G t=some (.bool c):=by rfl) (hd:o.dst=some d:=by rfl) (hn:Nat.blt d n=true:=by rfl)
  (hb:rem ops mods listed i=l:=by first | rfl | kernel_rfl) (hs:Region.noSelect ops=true:=by kernel_rfl) (hf:Region.free .any ops listed i=true:=by kernel_rfl) (hr:(Region.ready .any ops listed).contains i=true:=by kernel_rfl):tZ P ops Q mods (fuel+1) listed a w:=Ul i hi hs hf hr hb hQ I h hg hj ht hc hd hn k
end
section
variable {P:Program} {W:World} {M T:Nat->Prop} {n:Nat} {G:List (Nat×Value)} {D D0 Dr:List cS} {F:List cL} {a:Act} {w:World} {f z0 z1 z2 z3 z4 z5 z6 z7 z8 z9 z10 z11 z12 z13 z14 z15 z16 z17 z18 z19 z20 z21 z22 z23 z24 z25 z26 z27 z28 z29 z30:cL}
theorem St.g0 (h:St W M T n G D (f::F) a w):f.p (dT T D) w:=h.get 0 rfl
theorem St.d0 (h:St W M T n G (D0++Dr) (f::F) a w):f.p (dT (dT T Dr) D0) w:=h.getD 0 rfl
theorem St.g1 (h:St W M T n G D (z0::f::F) a w):f.p (dT T D) w:=h.get 1 rfl
theorem St.d1 (h:St W M T n G (D0++Dr) (z0::f::F) a w):f.p (dT (dT T Dr) D0) w:=h.getD 1 rfl
theorem St.g2 (h:St W M T n G D (z0::z1::f::F) a w):f.p (dT T D) w:=h.get 2 rfl
theorem St.d2 (h:St W M T n G (D0++Dr) (z0::z1::f::F) a w):f.p (dT (dT T Dr) D0) w:=h.getD 2 rfl
theorem St.g3 (h:St W M T n G D (z0::z1::z2::f::F) a w):f.p (dT T D) w:=h.get 3 rfl
theorem St.d3 (h:St W M T n G (D0++Dr) (z0::z1::z2::f::F) a w):f.p (dT (dT T Dr) D0) w:=h.getD 3 rfl
theorem St.g4 (h:St W M T n G D (z0::z1::z2::z3::f::F) a w):f.p (dT T D) w:=h.get 4 rfl
theorem St.d4 (h:St W M T n G (D0++Dr) (z0::z1::z2::z3::f::F) a w):f.p (dT (dT T Dr) D0) w:=h.getD 4 rfl
theorem St.g5 (h:St W M T n G D (z0::z1::z2::z3::z4::f::F) a w):f.p (dT T D) w:=h.get 5 rfl
theorem St.d5 (h:St W M T n G (D0++Dr) (z0::z1::z2::z3::z4::f::F) a w):f.p (dT (dT T Dr) D0) w:=h.getD 5 rfl
theorem St.g6 (h:St W M T n G D (z0::z1::z2::z3::z4::z5::f::F) a w):f.p (dT T D) w:=h.get 6 rfl
theorem St.d6 (h:St W M T n G (D0++Dr) (z0::z1::z2::z3::z4::z5::f::F) a w):f.p (dT (dT T Dr) D0) w:=h.getD 6 rfl
theorem St.g7 (h:St W M T n G D (z0::z1::z2::z3::z4::z5::z6::f::F) a w):f.p (dT T D) w:=h.get 7 rfl
theorem St.d7 (h:St W M T n G (D0++Dr) (z0::z1::z2::z3::z4::z5::z6::f::F) a w):f.p (dT (dT T Dr) D0) w:=h.getD 7 rfl
theorem St.g8 (h:St W M T n G D (z0::z1::z2::z3::z4::z5::z6::z7::f::F) a w):f.p (dT T D) w:=h.get 8 rfl
theorem St.d8 (h:St W M T n G (D0++Dr) (z0::z1::z2::z3::z4::z5::z6::z7::f::F) a w):f.p (dT (dT T Dr) D0) w:=h.getD 8 rfl
theorem St.g9 (h:St W M T n G D (z0::z1::z2::z3::z4::z5::z6::z7::z8::f::F) a w):f.p (dT T D) w:=h.get 9 rfl
theorem St.d9 (h:St W M T n G (D0++Dr) (z0::z1::z2::z3::z4::z5::z6::z7::z8::f::F) a w):f.p (dT (dT T Dr) D0) w:=h.getD 9 rfl
theorem St.g10 (h:St W M T n G D (z0::z1::z2::z3::z4::z5::z6::z7::z8::z9::f::F) a w):f.p (dT T D) w:=h.get 10 rfl
theorem St.d10 (h:St W M T n G (D0++Dr) (z0::z1::z2::z3::z4::z5::z6::z7::z8::z9::f::F) a w):f.p (dT (dT T Dr) D0) w:=h.getD 10 rfl
theorem St.g11 (h:St W M T n G D (z0::z1::z2::z3::z4::z5::z6::z7::z8::z9::z10::f::F) a w):f.p (dT T D) w:=h.get 11 rfl
theorem St.d11 (h:St W M T n G (D0++Dr) (z0::z1::z2::z3::z4::z5::z6::z7::z8::z9::z10::f::F) a w):f.p (dT (dT T Dr) D0) w:=h.getD 11 rfl
theorem St.g12 (h:St W M T n G D (z0::z1::z2::z3::z4::z5::z6::z7::z8::z9::z10::z11::f::F) a w):f.p (dT T D) w:=h.get 12 rfl
theorem St.d12 (h:St W M T n G (D0++Dr) (z0::z1::z2::z3::z4::z5::z6::z7::z8::z9::z10::z11::f::F) a w):f.p (dT (dT T Dr) D0) w:=h.getD 12 rfl
theorem St.g13 (h:St W M T n G D (z0::z1::z2::z3::z4::z5::z6::z7::z8::z9::z10::z11::z12::f::F) a w):f.p (dT T D) w:=h.get 13 rfl
theorem St.d13 (h:St W M T n G (D0++Dr) (z0::z1::z2::z3::z4::z5::z6::z7::z8::z9::z10::z11::z12::f::F) a w):f.p (dT (dT T Dr) D0) w:=h.getD 13 rfl
theorem St.g14 (h:St W M T n G D (z0::z1::z2::z3::z4::z5::z6::z7::z8::z9::z10::z11::z12::z13::f::F) a w):f.p (dT T D) w:=h.get 14 rfl
theorem St.d14 (h:St W M T n G (D0++Dr) (z0::z1::z2::z3::z4::z5::z6::z7::z8::z9::z10::z11::z12::z13::f::F) a w):f.p (dT (dT T Dr) D0) w:=h.getD 14 rfl
theorem St.g15 (h:St W M T n G D (z0::z1::z2::z3::z4::z5::z6::z7::z8::z9::z10::z11::z12::z13::z14::f::F) a w):f.p (dT T D) w:=h.get 15 rfl
theorem St.g16 (h:St W M T n G D (z0::z1::z2::z3::z4::z5::z6::z7::z8::z9::z10::z11::z12::z13::z14::z15::f::F) a w):f.p (dT T D) w:=h.get 16 rfl
theorem St.d16 (h:St W M T n G (D0++Dr) (z0::z1::z2::z3::z4::z5::z6::z7::z8::z9::z10::z11::z12::z13::z14::z15::f::F) a w):f.p (dT (dT T Dr) D0) w:=h.getD 16 rfl
theorem St.g17 (h:St W M T n G D (z0::z1::z2::z3::z4::z5::z6::z7::z8::z9::z10::z11::z12::z13::z14::z15::z16::f::F) a w):f.p (dT T D) w:=h.get 17 rfl
theorem St.g18 (h:St W M T n G D (z0::z1::z2::z3::z4::z5::z6::z7::z8::z9::z10::z11::z12::z13::z14::z15::z16::z17::f::F) a w):f.p (dT T D) w:=h.get 18 rfl
theorem St.g19 (h:St W M T n G D (z0::z1::z2::z3::z4::z5::z6::z7::z8::z9::z10::z11::z12::z13::z14::z15::z16::z17::z18::f::F) a w):f.p (dT T D) w:=h.get 19 rfl
theorem St.d20 (h:St W M T n G (D0++Dr) (z0::z1::z2::z3::z4::z5::z6::z7::z8::z9::z10::z11::z12::z13::z14::z15::z16::z17::z18::z19::f::F) a w):f.p (dT (dT T Dr) D0) w:=h.getD 20 rfl
theorem St.d21 (h:St W M T n G (D0++Dr) (z0::z1::z2::z3::z4::z5::z6::z7::z8::z9::z10::z11::z12::z13::z14::z15::z16::z17::z18::z19::z20::f::F) a w):f.p (dT (dT T Dr) D0) w:=h.getD 21 rfl
theorem St.d22 (h:St W M T n G (D0++Dr) (z0::z1::z2::z3::z4::z5::z6::z7::z8::z9::z10::z11::z12::z13::z14::z15::z16::z17::z18::z19::z20::z21::f::F) a w):f.p (dT (dT T Dr) D0) w:=h.getD 22 rfl
theorem St.d24 (h:St W M T n G (D0++Dr) (z0::z1::z2::z3::z4::z5::z6::z7::z8::z9::z10::z11::z12::z13::z14::z15::z16::z17::z18::z19::z20::z21::z22::z23::f::F) a w):f.p (dT (dT T Dr) D0) w:=h.getD 24 rfl
end
end
section
open Go.RowKit
structure bF where
  v1:(List Int)
theorem Cb:Te aR 262=some (2,103):=by kernel_rfl
theorem OH:aS aR 110=true:=by kernel_rfl
theorem RZ:aS aR 43=true:=by kernel_rfl
theorem wr:aS aR 44=true:=by kernel_rfl
theorem Tw:aS aR 45=true:=by kernel_rfl
theorem Tx:aS aR 46=true:=by kernel_rfl
theorem K9:aS aR 47=true:=by kernel_rfl
theorem Nu:aS aR 48=true:=by kernel_rfl
theorem Ty:aS aR 49=true:=by kernel_rfl
theorem Tz:aS aR 50=true:=by kernel_rfl
theorem TA:aS aR 51=true:=by kernel_rfl
theorem TB:aS aR 52=true:=by kernel_rfl
theorem R0:aS aR 53=true:=by kernel_rfl
theorem R4:aS aR 76=true:=by kernel_rfl
theorem TK:aS aR 77=true:=by kernel_rfl
theorem TL:aS aR 78=true:=by kernel_rfl
theorem TM:aS aR 79=true:=by kernel_rfl
theorem TN:aS aR 80=true:=by kernel_rfl
theorem PQ:aS aR 81=true:=by kernel_rfl
theorem R8:DM aR 194=some (103,1,8):=by kernel_rfl
theorem SC:DN aR 87=some [(0,1)]:=by kernel_rfl
theorem Ph:n8 aR 194=some 103:=by kernel_rfl
theorem SX:qT aR 85=some (false,1):=by kernel_rfl
theorem S5:gF aR 103=some [.int .u64 0]:=by kernel_rfl
theorem S9:gF aR 262=some [.int .u64 0,.int .u64 0]:=by kernel_rfl
theorem Ta:gF aR 85=some [.pointer none]:=by kernel_rfl
theorem Tb:gF aR 87=some [.slice none 0 0]:=by kernel_rfl
end
section
open Go.RowKit
structure aL where
  l:ByteArray
  f:Bool
structure aM where
  S:ByteArray
  f:Bool
theorem Co:aS aR 10=true:=by kernel_rfl
theorem PF:aS aR 11=true:=by kernel_rfl
theorem PG:aS aR 12=true:=by kernel_rfl
theorem K1:aS aR 128=true:=by kernel_rfl
theorem Gs:aS aR 129=true:=by kernel_rfl
theorem J2:aS aR 13=true:=by kernel_rfl
theorem IX:aS aR 130=true:=by kernel_rfl
theorem Q9:aS aR 131=true:=by kernel_rfl
theorem Ra:aS aR 132=true:=by kernel_rfl
theorem Rb:aS aR 133=true:=by kernel_rfl
theorem Rg:aS aR 138=true:=by kernel_rfl
theorem Rh:aS aR 139=true:=by kernel_rfl
theorem PH:aS aR 14=true:=by kernel_rfl
theorem K4:aS aR 15=true:=by kernel_rfl
theorem Rq:aS aR 16=true:=by kernel_rfl
theorem J3:aS aR 17=true:=by kernel_rfl
theorem Tq:aS aR 18=true:=by kernel_rfl
theorem RC:aS aR 181=true:=by kernel_rfl
theorem Nr:aS aR 19=true:=by kernel_rfl
theorem RL:aS aR 20=true:=by kernel_rfl
theorem PI:aS aR 21=true:=by kernel_rfl
theorem PJ:aS aR 23=true:=by kernel_rfl
theorem Tr:aS aR 25=true:=by kernel_rfl
theorem Nz:aS aR 60=true:=by kernel_rfl
theorem xI:aS aR 61=true:=by kernel_rfl
theorem TC:aS aR 62=true:=by kernel_rfl
theorem TD:aS aR 63=true:=by kernel_rfl
theorem TE:aS aR 64=true:=by kernel_rfl
theorem TF:aS aR 65=true:=by kernel_rfl
theorem R3:aS aR 66=true:=by kernel_rfl
theorem TG:aS aR 67=true:=by kernel_rfl
theorem BE:aS aR 68=true:=by kernel_rfl
theorem PN:aS aR 69=true:=by kernel_rfl
theorem PO:aS aR 70=true:=by kernel_rfl
theorem PP:aS aR 71=true:=by kernel_rfl
theorem TO:aS aR 83=true:=by kernel_rfl
theorem TP:aS aR 84=true:=by kernel_rfl
theorem TQ:aS aR 86=true:=by kernel_rfl
theorem TT:aS aR 9=true:=by kernel_rfl
theorem Sw:DN aR 118=some [(0,1),(1,1)]:=by kernel_rfl
theorem Sy:DN aR 189=some [(0,1),(1,1)]:=by kernel_rfl
theorem SP:n8 aR 61=some 5:=by kernel_rfl
theorem Ub:qT aR 5=some (false,1):=by kernel_rfl
theorem S6:gF aR 118=some [.string cr,.bool false]:=by kernel_rfl
theorem S7:gF aR 189=some [.string cr,.bool false]:=by kernel_rfl
theorem PW {W:World} {M T E:Nat->Prop} {n:Nat} {G:List (Nat×Value)} {D:List cS} {F:List cL} {a:Act} {w:World} {d:Option Nat} {t2:TypeId} {x y:Operand} {ty:TypeId} {pos:String} {af:Array Edge} {g:Option (Nat×Bool)} {p0 q0:Int} {p1 q1:ByteArray} {p2 q2:Int} {p3 q3:Int} (I:St W M T n G D F a w) (hx:ev G x=some (.agg #[.int .i64 p0,.string p1,.int .i64 p2,.int .u64 p3])) (hy:ev G y=some (.agg #[.int .i64 q0,.string q1,.int .i64 q2,.int .u64 q3])):Ye aR ⟨d,.binOp .neq 128 x y t2,ty,pos,af,g⟩ a E w (.bool (!(p0==q0&&p1.toList==q1.toList&&p2==q2&&p3==q3))) :=
  Ye.of fun w=>by
    have h1:=I.ev hx
    have h2:=I.ev hy
    clear I hx hy
    simp only [execOp,h1,h2,eqGuard]
    simp [go_sem]
    (repeat' split) <;> simp_all
end
section
open Go.RowKit
instance:uA aR 103 false 1:=⟨ye⟩
instance:uA aR 105 true 2:=⟨JB⟩
instance:uA aR 128 true 4:=⟨Dy⟩
instance:uA aR 221 false 1:=⟨by kernel_rfl⟩
instance:uA aR 49 false 1:=⟨by kernel_rfl⟩
instance:uA aR 51 true 5:=⟨wm⟩
instance:nZ aR 105 0 0:=⟨by kernel_rfl⟩
instance:nZ aR 105 1 1:=⟨by kernel_rfl⟩
instance:nZ aR 128 0 0:=⟨by kernel_rfl⟩
instance:nZ aR 128 1 2:=⟨by kernel_rfl⟩
instance:nZ aR 223 3 5:=⟨by kernel_rfl⟩
instance:nZ aR 51 0 0:=⟨by kernel_rfl⟩
instance:nZ aR 51 1 2:=⟨by kernel_rfl⟩
instance:nZ aR 51 2 3:=⟨by kernel_rfl⟩
instance:nZ aR 51 3 4:=⟨by kernel_rfl⟩
instance:HH aR 48 51:=⟨A3⟩
instance:HH aR 49 128:=⟨Ip⟩
instance:uA aR 61 false 1:=⟨by kernel_rfl⟩
instance:uA aR 85 false 1:=⟨SX⟩
instance:nZ aR 87 0 0:=⟨by kernel_rfl⟩
instance:HH aR 194 103:=⟨Ph⟩
instance:uA aR 5 false 1:=⟨Ub⟩
instance:nZ aR 118 0 0:=⟨by kernel_rfl⟩
instance:nZ aR 118 1 1:=⟨by kernel_rfl⟩
instance:nZ aR 189 0 0:=⟨by kernel_rfl⟩
instance:nZ aR 189 1 1:=⟨by kernel_rfl⟩
instance:HH aR 61 5:=⟨SP⟩
instance:uA aR 22 false 1:=⟨SV⟩
instance:uA aR 23 false 1:=⟨by kernel_rfl⟩
instance:uA aR 25 true 3:=⟨gN⟩
instance:uA aR 3 false 1:=⟨F3⟩
instance:uA aR 30 true 2:=⟨iQ⟩
instance:uA aR 31 false 1:=⟨He⟩
instance:uA aR 33 true 8:=⟨oy⟩
instance:uA aR 4 false 1:=⟨Qz⟩
instance:uA aR 9 false 1:=⟨M9⟩
instance:uA aR 91 true 4:=⟨BS⟩
instance:nZ aR 25 0 0:=⟨by kernel_rfl⟩
instance:nZ aR 25 1 1:=⟨by kernel_rfl⟩
instance:nZ aR 25 2 2:=⟨by kernel_rfl⟩
instance:nZ aR 30 0 0:=⟨by kernel_rfl⟩
instance:nZ aR 30 1 1:=⟨by kernel_rfl⟩
instance:nZ aR 33 0 0:=⟨by kernel_rfl⟩
instance:nZ aR 33 1 2:=⟨by kernel_rfl⟩
instance:nZ aR 33 2 3:=⟨by kernel_rfl⟩
instance:nZ aR 33 3 4:=⟨by kernel_rfl⟩
instance:nZ aR 33 4 5:=⟨by kernel_rfl⟩
instance:nZ aR 33 5 6:=⟨by kernel_rfl⟩
instance:nZ aR 33 6 7:=⟨by kernel_rfl⟩
instance:nZ aR 91 0 0:=⟨by kernel_rfl⟩
instance:nZ aR 91 1 2:=⟨by kernel_rfl⟩
instance:nZ aR 91 2 3:=⟨by kernel_rfl⟩
instance:HH aR 22 91:=⟨Dp⟩
instance:HH aR 23 33:=⟨qQ⟩
instance:HH aR 26 3:=⟨Ky⟩
instance:HH aR 31 30:=⟨qR⟩
instance:uA aR 147 true 4:=⟨MV⟩
instance:uA aR 148 false 1:=⟨by kernel_rfl⟩
instance:uA aR 150 true 4:=⟨tY⟩
instance:uA aR 153 true 3:=⟨EV⟩
instance:uA aR 26 false 1:=⟨by kernel_rfl⟩
instance:nZ aR 147 0 0:=⟨by kernel_rfl⟩
instance:nZ aR 147 1 1:=⟨by kernel_rfl⟩
instance:nZ aR 147 2 2:=⟨by kernel_rfl⟩
instance:nZ aR 147 3 3:=⟨by kernel_rfl⟩
instance:nZ aR 150 0 0:=⟨by kernel_rfl⟩
instance:nZ aR 150 1 1:=⟨by kernel_rfl⟩
instance:nZ aR 150 2 2:=⟨by kernel_rfl⟩
instance:nZ aR 150 3 3:=⟨by kernel_rfl⟩
instance:nZ aR 84 0 0:=⟨by kernel_rfl⟩
instance:nZ aR 84 1 1:=⟨by kernel_rfl⟩
instance:HH aR 148 147:=⟨MJ⟩
instance:HH aR 34 150:=⟨A2⟩
instance:HH aR 42 9:=⟨Kz⟩
instance:nZ aR 153 0 0:=⟨by kernel_rfl⟩
instance:nZ aR 153 1 2:=⟨by kernel_rfl⟩
instance:HH aR 64 153:=⟨KA⟩
instance:uA aR 137 false 1:=⟨Pi⟩
instance:uA aR 139 true 7:=⟨uX⟩
instance:uA aR 202 true 6:=⟨xa⟩
instance:uA aR 34 false 1:=⟨by kernel_rfl⟩
instance:uA aR 42 false 1:=⟨Iu⟩
instance:nZ aR 139 0 0:=⟨by kernel_rfl⟩
instance:nZ aR 139 1 1:=⟨by kernel_rfl⟩
instance:nZ aR 139 2 4:=⟨by kernel_rfl⟩
instance:nZ aR 139 3 5:=⟨by kernel_rfl⟩
instance:nZ aR 139 4 6:=⟨by kernel_rfl⟩
instance:nZ aR 202 3 4:=⟨Fv⟩
instance:nZ aR 202 4 5:=⟨Fw⟩
instance:HH aR 137 202:=⟨w8⟩
instance:uA aR 220 false 1:=⟨by kernel_rfl⟩
instance:uA aR 225 true 4:=⟨by kernel_rfl⟩
instance:nZ aR 202 0 0:=⟨by kernel_rfl⟩
instance:nZ aR 202 1 2:=⟨by kernel_rfl⟩
instance:nZ aR 202 2 3:=⟨by kernel_rfl⟩
instance:nZ aR 223 0 0:=⟨by kernel_rfl⟩
instance:nZ aR 223 1 1:=⟨by kernel_rfl⟩
instance:nZ aR 223 2 4:=⟨by kernel_rfl⟩
instance:nZ aR 225 0 0:=⟨by kernel_rfl⟩
instance:nZ aR 225 1 1:=⟨by kernel_rfl⟩
instance:nZ aR 225 2 2:=⟨by kernel_rfl⟩
instance:HH aR 253 257:=⟨MK⟩
instance:uA aR 257 true 4:=⟨Hd⟩
instance:nZ aR 257 0 0:=⟨by kernel_rfl⟩
instance:nZ aR 257 1 2:=⟨by kernel_rfl⟩
instance:uA aR 166 false 1:=⟨by kernel_rfl⟩
instance:uA aR 173 false 1:=⟨Pj⟩
instance:uA aR 43 false 1:=⟨SW⟩
instance:nZ aR 180 0 0:=⟨by kernel_rfl⟩
instance:nZ aR 180 1 1:=⟨by kernel_rfl⟩
instance:nZ aR 180 2 4:=⟨by kernel_rfl⟩
instance:nZ aR 180 3 5:=⟨by kernel_rfl⟩
instance:nZ aR 180 4 6:=⟨by kernel_rfl⟩
instance:OC aR 3 (.int .i64):=⟨Tryz.underlying3⟩
instance:OC aR 5 (.int .u8):=⟨Tryz.underlying5⟩
instance:OC aR 9 .string:=⟨Tryz.underlying9⟩
instance:OC aR 103 (.int .u64):=⟨Tryz.underlying103⟩
instance:OC aR 187 (.int .u64):=⟨Tryz.underlying187⟩
abbrev pt (b o:Nat):Value:=.pointer (some ⟨b,o,none⟩)
abbrev om (b:Nat) (e:Array MapEntry) (c:Nat):cS:=.obj b (.map e c)
abbrev TW (T:Nat->Prop) (w:World):Prop:=∀ k,T k->k<w.heap.size
abbrev tN (x:df):bK:=[.int .i64 x.d1,.int .u64 x.b1]
abbrev En (x:da):bK:=[.int .i64 x.d.k,.string x.d.t,.int .i64 x.j.d1,.int .u64 x.j.b1]
abbrev bo (x:aq) (v0:Value):bK:=[.int .i64 x.d.k,.string x.d.t,v0,.string x.u,.int .i64 x.h]
abbrev bg (x:aL):bK:=[.string x.l,.bool x.f]
abbrev bQ (x:aM):bK:=[.string x.S,.bool x.f]
abbrev bm (x:ah):bK:=[.int .i64 x.k,.string x.t]
abbrev bA (x:ay) (v0:Value):bK:=[.int .i64 x.d.k,.string x.d.t,.string x.u,v0,.int .i64 x.x,.int .i64 x.c,.int .i64 x.h,.bool x.w]
abbrev qs (x:bc):bK:=[.int .i64 x.d.k,.string x.d.t,.string x.u,.int .i64 x.x]
abbrev bp (x:ao) (v0 v1:Value):bK:=[.int .i64 x.r,v0,v1]
abbrev bu (x:bv) (v0:Value):bK:=[v0,.int .i64 x.s1]
abbrev py (x:fw):bK:=[.int .i64 x.d.k,.string x.d.t,.string x.u]
abbrev PE (x:fZ):bK:=[.bool x.t1,.bool x.c1,.int .i64 x.N,.int .i64 x.u1]
abbrev xQ (x:aX) (v0:Value):bK:=[.bool x.o,v0,.int .i64 x.p,.int .i64 x.C]
abbrev nS (x:cb) (v0 v1:Value):bK:=[.int .i64 x.d.k,.string x.d.t,.bool x.y,.int .i64 x.s1,v0,v1]
abbrev xR (x:fj) (v0 v1 v2 v3 v4 v5:Value):bK:=[v0,.int .i64 x.b.r,v1,v2,v3,v4,v5]
abbrev HW (x:eB):bK:=[.int .i64 x.x1.k,.string x.x1.t,.int .i64 x.k1.k,.string x.k1.t]
abbrev OF (x:uC):bK:=[.bool x.a1,.string x.u,.int .i64 x.l1.k,.string x.l1.t]
abbrev LL:=List (ah×(List ah))
abbrev LB:=List (ah×ByteArray)
abbrev LO:=List (ah×Bool)
abbrev LR:=List ay
abbrev LI:=List bc
abbrev LK:=List ah
abbrev LU:=List aX
abbrev LV:=bK
abbrev AM:=Array MapEntry
abbrev LN:=List Int
abbrev LY:=List ByteArray
abbrev LF:=List cb
abbrev LC:=List fw
abbrev bI (v:Value) (c:bK):cS:=.own v 51 au.size c
abbrev zP (v:Value) (c:bK):cS:=.own v 147 gg.size c
abbrev kT (v:Value) (c:bK):cS:=.own v 153 bG.size c
abbrev oJ (v:Value) (c:bK):cS:=.own v 257 iA.size c
abbrev eM (v:Value) (c:bK):cS:=.own v 202 aB.size c
abbrev aZ (v:Value) (c:bK):cS:=.own v 91 ab.size c
abbrev aE (v:Value) (c:bK):cS:=.own v 30 ac.size c
abbrev uj (v:Value) (c:bK):cS:=.own v 128 cj.size c
abbrev aK (v:Value) (c:bK):cS:=.own v 33 aa.size c
abbrev cB (v:Value) (c:bK):cS:=.own v 150 aC.size c
abbrev qn (e:Array MapEntry) (x:List (ah×ByteArray)):cL:=rD ac true aO.str false e x
abbrev tM (e:Array MapEntry) (x:List (ah×(List ah))):cL:=rD ac true (aO.slice ac) false e x
abbrev xY (e:Array MapEntry) (x:List (ah×Bool)):cL:=rD ac true aO.bool false e x
abbrev xS (b:Nat) (v:Value) (r:Int) (v1 v2:Value) (m k:Nat):cS:=.box b [v,.int .i64 r,v1,v2,.map (some m),.map (some k)] 223
abbrev xE (b d:Nat) (r:Int) (v1 v2:Value) (m:Nat) (v3:Value) (e:Int):cS:=.box b [.pointer (some ⟨d,0,none⟩),.int .i64 r,v1,v2,.map (some m),v3,.int .i64 e] 180
end
section
open Go.RowKit
section
variable {P:Program}
end
end
section
open Go.RowKit
end
end Go.Proofs.YtcpplgcgcbihoaaGreatDoor
section
namespace Go.Proofs
open Go.Shelf
end Go.Proofs
end
namespace Go.Proofs.YtcpplgcgcbihoaaGreatDoor
section
open Go.RowKit
open Go.Lib hiding intOf
open Go.Sort (grow grow_grow alloc_eq_grow)
end
section
set_option maxRecDepth 100000
set_option maxHeartbeats 4000000
open Go.RowKit
variable (T:Nat->Prop) (L:World) (hT:TW T L)
include hT
noncomputable section
def pI:=some (true)
def eN (e f:LK) (b:Int):Option (Fl (Int) (Fl (Unit) Bool)):=cond (decide (b<(e.length:Int))) ((bO e b).bind fun c=>(bO f b).bind fun d=>cond (!(d.k==c.k&&d.t.toList==c.t.toList)) (some (.out (.out false))) (some (.go (IntKind.i64.wrap (b+1))))) (some (.out (.go ())))
def jq (b c:LK):=cond ((b.length:Int) != (c.length:Int)) (some (false)) ((loop (fun s:Int=>eN b c s) 0).bind fun r=>Fl.el r (fun s=>pI) (fun y=>some (y)))
theorem AV (c d:LK) (i j:Value) (x:aI ac T L i c) (z:aI ac T L j d) (y:Bool) (B:jq c d=some y):bj aR No 35 [i,j] L (fun v w'=>v = .bool y):=by
 refine en Tryz.func35 Tryz.ntmps35 hT fun a I=>?_;replace I:=(I.fS (aI.dn x)).fS (aI.dn z);unfold jq at B;refine al I fun a I=>?_;refine aA ?_;refine al I fun a I=>?_;rcases cd B with⟨m,B⟩|⟨m,B⟩
 ·exact fz
 refine al I fun a I=>?_;refine aN (J:=fun a w=>St L No T 26 [] [] [] a w/\pI=some y) ?_ ?_
 ·refine al I fun a I=>?_;obtain⟨M,u,hMo1⟩:=bd B;refine bH _ (fun s a w=>∃ (b:Int),b=s/\St L No T 26 [(1,j),(12,i),(13,am (c.length:Int)),(14,am b)] [] [aT ac j d,aT ac i c] a w) u ⟨_,rfl,I.mt [] [0,1]⟩ ?_;rintro s a w G ⟨b,rfl,I⟩ B hf1;have B:eN c d b=some G:=B;unfold eN at B;refine al I fun a I=>?_;refine aA ?_;rcases cd B with⟨n,B⟩|⟨n,B⟩
  ·refine al I fun a I=>?_;refine aA ?_;refine al I fun a I=>?_;obtain⟨e,g,B⟩:=bd B;refine wl rfl (bE (R:=ac) I qR iQ rfl rfl 1 rfl g rfl fun A K E o a I=>?_);obtain rfl:=o;refine kA I iS fun D H a w O I=>?_;refine go I fun a w I=>?_;refine aA ?_;refine dr [] I fun w hQ I=>?_;refine gE [0,1] I fun a I=>?_;obtain⟨f,h,B⟩:=bd B;obtain⟨l,r,F,p,q,I⟩:=nw (R:=ac) I qR iQ 1 rfl h;obtain rfl:=p;refine dq 2 I (v:=pt l r) (q rfl rfl) fun a I=>?_;refine gE [3,4] I fun a I=>?_;refine dq 5 I (v:=.bool (!(f.k==e.k&&f.t.toList==e.t.toList))) (CI I rfl rfl) fun a I=>?_;refine eD ?_;exact fz
  exact fz
 rintro a w ⟨I,B⟩;unfold pI at B;exact fz
def dv (b:Bool):=some (b)
def iZ (b e:ay):=cond (b.d.k==e.d.k&&b.d.t.toList==e.d.t.toList) (cond (b.u.toList==e.u.toList) ((jq b.v e.v).bind fun f=>cond f (cond (b.x==e.x) (cond (b.c==e.c) (cond (b.h==e.h) (dv (b.w==e.w)) (dv false)) (dv false)) (dv false)) (dv false)) (dv false)) (dv false)
theorem BN (b c:ay) (p q:Value) (n:aI ac T L p b.v) (o:aI ac T L q c.v) (y:Bool) (B:iZ b c=some y):bj aR No 41 [.agg (bA b p).toArray,.agg (bA c q).toArray] L (fun v w'=>v = .bool y):=by
 refine en Tryz.func41 Tryz.ntmps41 hT fun a I=>?_;replace I:=(I.fS (aI.dn n)).fS (aI.dn o);unfold iZ at B;refine kB I fun r u a w O I=>?_;refine kb I fun s x a w O I=>?_;refine al I fun a I=>?_;refine aN (J:=fun a w=>∃ (e:Bool),St L No T 52 [(4,.bool e)] [] [] a w/\dv e=some y) ?_ ?_
 ·refine al I fun a I=>?_;refine wl rfl (ky (v:=.bool (b.d.k==c.d.k&&b.d.t.toList==c.d.t.toList)) I (H2 I rfl rfl) rfl rfl fun a I=>?_);refine al I fun a I=>?_;rcases cd B with⟨i,B⟩|⟨i,B⟩
  ·refine al I fun a I=>?_;rcases cd B with⟨f,B⟩|⟨f,B⟩
   ·refine al I fun a I=>?_;obtain⟨z,h,B⟩:=bd B;refine wg I rfl rfl rfl f (bP I Ts rfl rfl (AV _ _ I.dlt b.v c.v _ _ I.g1 I.g0 _ h) fun _ w C a O U=>?_);obtain rfl:=C;have I:=eL U;refine al I fun a I=>?_;rcases cd B with⟨j,B⟩|⟨j,B⟩
    ·refine al I fun a I=>?_;rcases cd B with⟨l,B⟩|⟨l,B⟩
     ·refine al I fun a I=>?_;rcases cd B with⟨m,B⟩|⟨m,B⟩
      ·refine al I fun a I=>?_;rcases cd B with⟨g,B⟩|⟨g,B⟩
       ·refine al I fun a I=>?_;refine qg I g (IE I rfl rfl Tryz.underlying4 (.inl ⟨rfl,rfl⟩)) fun a I=>?_;exact fz
       exact fz
      exact fz
     exact fz
    exact fz
   exact fz
  exact fz
 rintro a w ⟨e,I,B⟩;unfold dv at B;exact fz
def ul:=some (true)
def i6 (c g:LR) (b:Int):Option (Fl (Int) (Fl (Unit) Bool)):=cond (decide (b<(c.length:Int))) ((bO c b).bind fun d=>(bO g b).bind fun e=>(iZ d e).bind fun f=>cond (!(f)) (some (.out (.out false))) (some (.go (IntKind.i64.wrap (b+1))))) (some (.out (.go ())))
def o3 (b c:LR):=cond ((b.length:Int) != (c.length:Int)) (some (false)) ((loop (fun s:Int=>i6 b c s) 0).bind fun r=>Fl.el r (fun s=>ul) (fun y=>some (y)))
theorem FM (c d:LR) (j k:Value) (z:aI aa T L j c) (A:aI aa T L k d) (y:Bool) (B:o3 c d=some y):bj aR No 72 [j,k] L (fun v w'=>v = .bool y):=by
 refine en Tryz.func72 Tryz.ntmps72 hT fun a I=>?_;replace I:=(I.fS (aI.dn z)).fS (aI.dn A);unfold o3 at B;refine al I fun a I=>?_;refine aA ?_;refine al I fun a I=>?_;rcases cd B with⟨o,B⟩|⟨o,B⟩
 ·exact fz
 refine al I fun a I=>?_;refine aN (J:=fun a w=>St L No T 27 [] [] [] a w/\ul=some y) ?_ ?_
 ·refine al I fun a I=>?_;obtain⟨S,x,hMo1⟩:=bd B;refine bH _ (fun s a w=>∃ (b:Int),b=s/\St L No T 27 [(1,k),(12,j),(13,am (c.length:Int)),(14,am b)] [] [aT aa k d,aT aa j c] a w) x ⟨_,rfl,I.mt [] [0,1]⟩ ?_;rintro s a w H ⟨b,rfl,I⟩ B hf1;have B:i6 c d b=some H:=B;unfold i6 at B;refine al I fun a I=>?_;refine aA ?_;rcases cd B with⟨p,B⟩|⟨p,B⟩
  ·refine al I fun a I=>?_;refine aA ?_;refine al I fun a I=>?_;obtain⟨m,e,B⟩:=bd B;refine wl rfl (bE (R:=aa) I qQ oy rfl rfl 1 rfl e rfl fun D M F q a I=>?_);obtain⟨P,rfl,h⟩:=q;replace I:=I.fS h;refine kA I f0 fun E K a w O I=>?_;refine go I fun a w I=>?_;refine aA ?_;refine dr [] I fun w hQ I=>?_;refine gE [0,1,2] I fun a I=>?_;obtain⟨n,f,B⟩:=bd B;obtain⟨l,u,G,r,t,I⟩:=nw (R:=aa) I qQ oy 2 rfl f;obtain⟨Q,rfl,i⟩:=r;replace I:=I.fS i;refine dq 3 I (v:=pt l u) (t rfl rfl) fun a I=>?_;refine gE [4] I fun a I=>?_;obtain⟨N,g,B⟩:=bd B;refine ec 5 I Tu (BN _ _ I.dlt m n _ _ I.g2 I.g0 _ g) fun _ w C a O U=>?_;obtain rfl:=C;have I:=eL U;refine gE [6] I fun a I=>?_;refine eD ?_;exact fz
  exact fz
 rintro a w ⟨I,B⟩;unfold ul at B;exact fz
def rp:=some (true)
def gL (f g:ao) (e:Int):Option (Fl (Int) (Fl (Unit) Bool)):=cond (decide (e<(f.i.length:Int))) ((bO f.i e).bind fun b=>(bO g.i e).bind fun c=>cond (!(c.d.k==b.d.k&&c.d.t.toList==b.d.t.toList&&c.u.toList==b.u.toList&&c.x==b.x)) (some (.out (.out false))) (some (.go (IntKind.i64.wrap (e+1))))) (some (.out (.go ())))
def kl (b c:ao):=cond (b.r != c.r) (some (false)) (cond ((b.i.length:Int) != (c.i.length:Int)) (some (false)) ((o3 b.s c.s).bind fun d=>cond (!(d)) (some (false)) ((loop (fun s:Int=>gL b c s) 0).bind fun r=>Fl.el r (fun s=>rp) (fun y=>some (y)))))
theorem sN (c b:ao) (o S:Value) (p q:Value) (M:aI ab T L o c.i) (N:aI aa T L S c.s) (P:aI ab T L p b.i) (Q:aI aa T L q b.s) (y:Bool) (B:kl c b=some y):bj aR No 19 [.agg (bp c o S).toArray,.agg (bp b p q).toArray] L (fun v w'=>v = .bool y):=by
 refine en Tryz.func19 Tryz.ntmps19 hT fun a I=>?_;replace I:=(((I.fS (aI.dn M)).fS (aI.dn N)).fS (aI.dn P)).fS (aI.dn Q);unfold kl at B;refine kB I fun V a1 a w O I=>?_;refine kb I fun h a2 a w O I=>?_;refine al I fun a I=>?_;refine aA ?_;refine dW ?_;refine al I fun a I=>?_;rcases cd B with⟨z,B⟩|⟨z,B⟩
 ·exact fz
 refine al I fun a I=>?_;rcases cd B with⟨j,B⟩|⟨j,B⟩
 ·exact fz
 refine al I fun a I=>?_;obtain⟨a5,n,B⟩:=bd B;refine wg I rfl rfl rfl j (bP I TH rfl rfl (FM _ _ I.dlt c.s b.s _ _ I.g2 I.g0 _ n) fun _ w C a O U=>?_);obtain rfl:=C;have I:=eL U;refine al I fun a I=>?_;rcases cd B with⟨A,B⟩|⟨A,B⟩
 ·exact fz
 refine al I fun a I=>?_;refine aN (J:=fun a w=>St L No T 45 [] [] [] a w/\rp=some y) ?_ ?_
 ·refine al I fun a I=>?_;obtain⟨r1,K,hMo1⟩:=bd B;refine bH _ (fun s a w=>∃ (g:Int),g=s/\St L No T 45 [(3,pt h 0),(30,o),(31,am (c.i.length:Int)),(32,am g)] [.box h (bp b p q) 25] [aT ab o c.i,aT ab p b.i,aT aa q b.s] a w) K ⟨_,rfl,I.mt [0] [3,1,0]⟩ ?_;rintro s a w f1 ⟨g,rfl,I⟩ B hf1;have B:gL c b g=some f1:=B;unfold gL at B;refine al I fun a I=>?_;refine aA ?_;rcases cd B with⟨D,B⟩|⟨D,B⟩
  ·refine al I fun a I=>?_;refine aA ?_;refine al I fun a I=>?_;obtain⟨e,l,B⟩:=bd B;refine wl rfl (bE (R:=ab) I Dp BS rfl rfl 0 rfl l rfl fun W a4 Y E a I=>?_);obtain rfl:=E;refine kA I vU fun X a3 a w O I=>?_;refine go I fun a w I=>?_;refine aA ?_;refine dr [] I fun w hQ I=>?_;refine gE [0,1,2] I fun a I=>?_;obtain⟨f,m,B⟩:=bd B;obtain⟨r,H,Z,F,G,I⟩:=nw (R:=ab) I Dp BS 2 rfl m;obtain rfl:=F;refine dq 3 I (v:=pt r H) (G rfl rfl) fun a I=>?_;refine gE [4,5] I fun a I=>?_;refine dq 6 I (v:=.bool (!(f.d.k==e.d.k&&f.d.t.toList==e.d.t.toList&&f.u.toList==e.u.toList&&f.x==e.x))) (Sb I rfl rfl) fun a I=>?_;refine eD ?_;exact fz
  exact fz
 rintro a w ⟨I,B⟩;unfold rp at B;exact fz
def o1 (b:Int):=cond (decide (b<0)) (some ((ah.mk 0 cr))) (cond (decide ((99:Int)<b)) (some ((ah.mk 0 cr))) ((zH b).bind fun c=>some ((ah.mk 30 c))))
theorem vz (hLv:fi T L) (b:Int) (y:ah) (B:o1 b=some y):bj aR No 91 [am b] L (fun v w'=>v = .agg (bm y).toArray):=by
 refine en Tryz.func91 Tryz.ntmps91 hT fun a I=>?_;replace I:=I.fact ci (fi.dn hLv);unfold o1 at B;refine kA I iS fun g h a w O I=>?_;refine al I fun a I=>?_;refine aA ?_;refine dW ?_;refine al I fun a I=>?_;rcases cd B with⟨e,B⟩|⟨e,B⟩
 ·refine al I fun a I=>?_;refine qy I (br (ps:=[]) I FJ iS rfl (us:=[]) trivial (ws:=[am 0,aU cr]) rfl) fun a I=>?_;refine go I fun a w I=>?_;cases B
  refine aH I rfl (rC 0 I) ?_;exact rfl
 refine al I fun a I=>?_;rcases cd B with⟨f,B⟩|⟨f,B⟩
 ·refine al I fun a I=>?_;refine qy I (br (ps:=[]) I FJ iS rfl (us:=[]) trivial (ws:=[am 0,aU cr]) rfl) fun a I=>?_;refine go I fun a w I=>?_;cases B
  refine aH I rfl (rC 0 I) ?_;exact rfl
 refine al I fun a I=>?_;obtain⟨c,d,B⟩:=bd B;refine kE I IY (BW _ _ I.dlt I.g0 b _ d) fun w a I=>?_;refine qy I (br (ps:=[(0,.const (am 30)),(1,.tmp 11)]) I FJ iS rfl (us:=[[am 30],[aU c]]) ⟨rfl,⟨rfl,trivial⟩⟩ (ws:=[am 30,aU c]) rfl) fun a I=>?_;refine go I fun a w I=>?_;cases B
 refine aH I rfl (rC 0 I) ?_;exact rfl
def uP (b:LN):=some ((bv.mk b 0))
theorem wK (d:LN) (b:Value) (g:aI (aO.int .i64) T L b d) (y:bv) (B:uP d=some y):bj aR No 12 [b] L (fun v w'=>∃ (c:Nat) (f:Value),v=pt c 0/\L.heap.size<=c/\w'.heap[c]? = some (.cells (bu y f).toArray 84 (0,0))/\aI (aO.int .i64) (dT T [.box c (bu y f) 84]) w' f y.L):=by
 refine en Tryz.func12 Tryz.ntmps12 hT fun a I=>?_;replace I:=I.fS (aI.dn g);unfold uP at B;refine al I fun a I=>?_;refine qy I (br (ps:=[(0,.tmp 3)]) I T6 Ud rfl (us:=[[b]]) ⟨(mF (aI.one (I.g0:aI (aO.int .i64) _ _ _ _))),trivial⟩ (ws:=[b,am 0]) rfl) fun a I=>?_;refine kb I fun e h a w O I=>?_;refine al I fun a I=>?_;cases B
 refine aH I rfl (aw I rfl aF) ?_;exact⟨e,b,rfl,I.boxNew 0 rfl,I.zb 0 rfl,(aI.up ⟨.inr (aD (i:=0) rfl),trivial⟩ I.g0)⟩
def mS (c b:Int):=cond (decide (b<1)) (some (0)) (gd (b != 0) <| gd (b != 0) <| some (Int.tmod (IntKind.i64.wrap ((Int.tmod c b)+b)) b))
theorem qD (c b y:Int) (B:mS c b=some y):bj aR No 26 [am c,am b] L (fun v w'=>v=am y):=by
 refine en Tryz.func26 Tryz.ntmps26 hT fun a I=>?_;unfold mS at B;refine al I fun a I=>?_;refine aA ?_;refine al I fun a I=>?_;rcases cd B with⟨d,B⟩|⟨d,B⟩
 ·exact fz
 refine al I fun a I=>?_;obtain⟨e,B⟩:=aP B;refine qy I (EZ I rfl rfl (bne_iff_ne.1 e)) fun a I=>?_;refine al I fun a I=>?_;obtain⟨f,B⟩:=aP B;refine qy I (EZ I rfl rfl (bne_iff_ne.1 f)) fun a I=>?_;exact fz
def cz (b:bv) (e:Int):=cond (decide ((b.L.length:Int)<=b.s1)) (some ((0,b))) ((bO b.L (IntKind.i64.wrap ((IntKind.i64.wrap (b.s1+1))-1))).bind fun c=>(mS c e).bind fun d=>some ((d,(bv.mk b.L (IntKind.i64.wrap (b.s1+1))))))
theorem bU (d:bv) (f:Int) (e:Value) (b:Nat) (s:L.heap[b]? = some (.cells (bu d e).toArray 84 (0,0))) (q:¬ T b) (t:aI (aO.int .i64) (dT T [.box b (bu d e) 84]) L e d.L) (y:Int×bv) (B:cz d f=some y):bj aR (fun k=>k=b) 73 [pt b 0,am f] L (fun v w'=>∃ (j:Value),v=am y.1/\w'.heap[b]? = some (.cells (bu y.2 j).toArray 84 (0,0))/\aI (aO.int .i64) (dT T [.box b (bu y.2 j) 84]) w' j y.2.L/\e=j):=by
 refine oZ (c:=_) Tryz.func73 rfl T 35 Tryz.ntmps73 hT rfl s q fun a I=>?_;replace I:=I.fS t;unfold cz at B;refine al I fun a I=>?_;refine aA ?_;refine aA ?_;refine dr [] I fun w hQ I=>?_;refine gE [0,1,2,3,4,5,6,7,8,9] I fun a I=>?_;refine eD ?_;refine al I fun a I=>?_;rcases cd B with⟨n,B⟩|⟨n,B⟩
 ·refine al I fun a I=>?_;cases B
  refine aH I rfl (aw I rfl aF) ?_;exact⟨e,rfl,I.zb 0 rfl,(aI.up ⟨.inr (aD (i:=0) rfl),trivial⟩ I.g0),rfl⟩
 refine go I fun a w I=>?_;refine aA ?_;refine dr [] I fun w hQ I=>?_;refine gE [0,1,2,3,4,5,6,7,8] I fun a I=>?_;obtain⟨m,g,B⟩:=bd B;obtain⟨l,r,u,o,p,I⟩:=nw (R:=(aO.int .i64)) I Ky F3 0 rfl g;obtain rfl:=o;refine dq 9 I (v:=pt l r) (p rfl rfl) fun a I=>?_;refine gE [10,11] I fun a I=>?_;obtain⟨x,h,B⟩:=bd B;refine ec 12 I J5 (qD _ _ I.dlt m f _ h) fun _ w C a O U=>?_;obtain rfl:=C;have I:=eL U;refine gE [13] I fun a I=>?_;refine eD ?_;refine al I fun a I=>?_;cases B
 refine aH I rfl (aw I rfl aF) ?_;exact⟨e,rfl,I.zb 0 rfl,(aI.up ⟨.inr (aD (i:=0) rfl),trivial⟩ I.g1),rfl⟩
def uK (e:bv) (c:LY):=(cz e (c.length:Int)).bind fun b=>(bO c b.1).bind fun d=>some ((d,(bv.mk b.2.L b.2.s1)))
theorem GB (b:bv) (h:LY) (f t:Value) (d:Nat) (q:L.heap[d]? = some (.cells (bu b f).toArray 84 (0,0))) (o:¬ T d) (r:aI (aO.int .i64) (dT T [.box d (bu b f) 84]) L f b.L) (s:aI aO.str (dT T [.box d (bu b f) 84]) L t h) (y:ByteArray×bv) (B:uK b h=some y):bj aR (fun k=>k=d) 153 [pt d 0,t] L (fun v w'=>∃ (m:Value),v=aU y.1/\w'.heap[d]? = some (.cells (bu y.2 m).toArray 84 (0,0))/\aI (aO.int .i64) (dT T [.box d (bu y.2 m) 84]) w' m y.2.L/\f=m):=by
 refine oZ (c:=_) Tryz.func153 rfl T 12 Tryz.ntmps153 hT rfl q o fun a I=>?_;replace I:=(I.fS r).fS s;unfold uK at B;refine al I fun a I=>?_;obtain⟨p,l,B⟩:=bd B;refine wl rfl (bJ I oX rfl rfl 0 rfl (bU _ _ (I.drop 0).dlt b (h.length:Int) _ _ (I.zb 0 rfl) (I.zi 0 rfl) (aI.lent (i:=0) rfl I.g1) _ l) fun _ w C O=>?_);obtain⟨D,he,hrow,g,e⟩:=C;obtain rfl:=he.symm;subst e;refine⟨(bu p.2 f),hrow,fun a I=>?_⟩;replace I:=I.fS (aI.back (i:=0) rfl g);obtain⟨z,j,B⟩:=bd B;refine wl rfl (bE (R:=aO.str) I Kz M9 rfl rfl 1 rfl j rfl fun u A x n a I=>?_);obtain rfl:=n;refine al I fun a I=>?_;cases B
 refine aH I rfl (aw I rfl aF) ?_;exact⟨f,rfl,I.zb 0 rfl,(aI.up ⟨.inr (aD (i:=0) rfl),trivial⟩ I.g1),rfl⟩
def rP (e:bv):=(cz e 4).bind fun b=>(o1 b.1).bind fun d=>(uK (bv.mk b.2.L b.2.s1) ([(ByteArray.mk #[48]),(ByteArray.mk #[49]),(ByteArray.mk #[50]),(ByteArray.mk #[51]),(ByteArray.mk #[55]),(ByteArray.mk #[49,48,48]),cr,(ByteArray.mk #[120]),(ByteArray.mk #[49,54]),(ByteArray.mk #[49])])).bind fun c=>some (((fw.mk d c.1),(bv.mk c.2.L c.2.s1)))
theorem DX (b:bv) (f:Value) (e:Nat) (u:L.heap[e]? = some (.cells (bu b f).toArray 84 (0,0))) (s:¬ T e) (z:aI (aO.int .i64) (dT T [.box e (bu b f) 84]) L f b.L) (hLv:fi (dT T [.box e (bu b f) 84]) L) (y:fw×bv) (B:rP b=some y):bj aR (fun k=>k=e) 100 [pt e 0] L (fun v w'=>∃ (r:Value),v = .agg (py y.1).toArray/\w'.heap[e]? = some (.cells (bu y.2 r).toArray 84 (0,0))/\aI (aO.int .i64) (dT T [.box e (bu y.2 r) 84]) w' r y.2.L/\f=r):=by
 refine oZ (c:=_) Tryz.func100 rfl T 10 Tryz.ntmps100 hT rfl u s fun a I=>?_;replace I:=(I.fact ci hLv).fS z;unfold rP at B;refine kA I DK fun A E a w O I=>?_;refine al I fun a I=>?_;obtain⟨d,o,B⟩:=bd B;refine wl rfl (bJ I oX rfl rfl 1 rfl (bU _ _ (I.drop 1).dlt b 4 _ _ (I.zb 1 rfl) (I.zi 1 rfl) (aI.lent (i:=1) rfl I.g0) _ o) fun _ w C O=>?_);obtain⟨F,he,hrow,m,g⟩:=C;obtain rfl:=he.symm;subst g;refine⟨(bu d.2 f),hrow,fun a I=>?_⟩;replace I:=I.fS (aI.back (i:=1) rfl m);obtain⟨j,p,B⟩:=bd B;refine kF I PS (vz _ _ I.dlt I.g2 d.1 _ p) fun w a I=>?_;refine wl rfl (bf (ps:=[(0,.const (.string ⟨#[48]⟩)),(1,.const (.string ⟨#[49]⟩)),(2,.const (.string ⟨#[50]⟩)),(3,.const (.string ⟨#[51]⟩)),(4,.const (.string ⟨#[55]⟩)),(5,.const (.string ⟨#[49,48,48]⟩)),(6,.const (.string ⟨#[]⟩)),(7,.const (.string ⟨#[120]⟩)),(8,.const (.string ⟨#[49,54]⟩)),(9,.const (.string ⟨#[49]⟩))]) I BG QM (zl:=[aU cr,aU cr,aU cr,aU cr,aU cr,aU cr,aU cr,aU cr,aU cr,aU cr]) (by kernel_rfl) rfl (us:=[[aU (ByteArray.mk #[48])],[aU (ByteArray.mk #[49])],[aU (ByteArray.mk #[50])],[aU (ByteArray.mk #[51])],[aU (ByteArray.mk #[55])],[aU (ByteArray.mk #[49,48,48])],[aU cr],[aU (ByteArray.mk #[120])],[aU (ByteArray.mk #[49,54])],[aU (ByteArray.mk #[49])]]) ⟨rfl,⟨rfl,⟨rfl,⟨rfl,⟨rfl,⟨rfl,⟨rfl,⟨rfl,⟨rfl,⟨rfl,trivial⟩⟩⟩⟩⟩⟩⟩⟩⟩⟩ (ws:=[aU (ByteArray.mk #[48]),aU (ByteArray.mk #[49]),aU (ByteArray.mk #[50]),aU (ByteArray.mk #[51]),aU (ByteArray.mk #[55]),aU (ByteArray.mk #[49,48,48]),aU cr,aU (ByteArray.mk #[120]),aU (ByteArray.mk #[49,54]),aU (ByteArray.mk #[49])]) rfl rfl rfl rfl fun D a w O I=>?_);replace I:=(I.lit (R:=aO.str) (us:=[aU (ByteArray.mk #[48]),aU (ByteArray.mk #[49]),aU (ByteArray.mk #[50]),aU (ByteArray.mk #[51]),aU (ByteArray.mk #[55]),aU (ByteArray.mk #[49,48,48]),aU cr,aU (ByteArray.mk #[120]),aU (ByteArray.mk #[49,54]),aU (ByteArray.mk #[49])]) (xs:=[(ByteArray.mk #[48]),(ByteArray.mk #[49]),(ByteArray.mk #[50]),(ByteArray.mk #[51]),(ByteArray.mk #[55]),(ByteArray.mk #[49,48,48]),cr,(ByteArray.mk #[120]),(ByteArray.mk #[49,54]),(ByteArray.mk #[49])]) 0 rfl (by decide) ((aJ (R:=aO.str) (x:=(ByteArray.mk #[48])) rfl).append ((aJ (R:=aO.str) (x:=(ByteArray.mk #[49])) rfl).append ((aJ (R:=aO.str) (x:=(ByteArray.mk #[50])) rfl).append ((aJ (R:=aO.str) (x:=(ByteArray.mk #[51])) rfl).append ((aJ (R:=aO.str) (x:=(ByteArray.mk #[55])) rfl).append ((aJ (R:=aO.str) (x:=(ByteArray.mk #[49,48,48])) rfl).append ((aJ (R:=aO.str) (x:=cr) rfl).append ((aJ (R:=aO.str) (x:=(ByteArray.mk #[120])) rfl).append ((aJ (R:=aO.str) (x:=(ByteArray.mk #[49,54])) rfl).append (aJ (R:=aO.str) (x:=(ByteArray.mk #[49])) rfl)))))))))) rfl rfl).zf (R:=aO.str) 0 rfl 0 rfl;obtain⟨l,q,B⟩:=bd B;refine wl rfl (bJ I Rp rfl rfl 1 rfl (GB _ _ (I.drop 1).dlt (bv.mk d.2.L d.2.s1) ([(ByteArray.mk #[48]),(ByteArray.mk #[49]),(ByteArray.mk #[50]),(ByteArray.mk #[51]),(ByteArray.mk #[55]),(ByteArray.mk #[49,48,48]),cr,(ByteArray.mk #[120]),(ByteArray.mk #[49,54]),(ByteArray.mk #[49])]) _ _ _ (I.zb 1 rfl) (I.zi 1 rfl) (aI.lent (i:=1) rfl I.g2) (aI.lent (i:=1) rfl I.g0) _ q) fun _ w C O=>?_);obtain⟨G,he,hrow,n,h⟩:=C;obtain rfl:=he.symm;subst h;refine⟨(bu l.2 f),hrow,fun a I=>?_⟩;replace I:=I.fS (aI.back (i:=1) rfl n);refine qy I (br (ps:=[(0,.tmp 5),(1,.tmp 8)]) I Sx DK rfl (us:=[(bm j),[aU l.1]]) ⟨rfl,⟨rfl,trivial⟩⟩ (ws:=[am j.k,aU j.t,aU l.1]) rfl) fun a I=>?_;refine go I fun a w I=>?_;cases B
 refine aH I rfl (rC 0 I) ?_;exact⟨f,rfl,I.zb 1 rfl,(aI.up ⟨.inr (aD (i:=1) rfl),trivial⟩ I.g0),rfl⟩
def oG (d:LC) (b:LN) (c:Int):=some ((d,(bv.mk b c)))
def oH (c:LC) (g:Int) (e:LN) (f:Int):Option (Fl (LC×Int×LN×Int) (LC×LN×Int)):=cond (decide ((0:Int)<g)) ((rP (bv.mk e f)).bind fun b=>gd (ce (c.length+([(fw.mk (ah.mk b.1.d.k b.1.d.t) b.1.u)]).length)) <| some (.go ((c++([(fw.mk (ah.mk b.1.d.k b.1.d.t) b.1.u)])),IntKind.i64.wrap (g-1),b.2.L,b.2.s1))) (some (.out (c,e,f)))
def lD (d:bv) (c:Int):=(cz d (IntKind.i64.wrap (c+1))).bind fun b=>(loop (fun s:LC×Int×LN×Int=>oH s.1 s.2.1 s.2.2.1 s.2.2.2) (([]:List fw),b.1,b.2.L,b.2.s1)).bind fun r=>oG r.1 r.2.1 r.2.2
theorem tr (l:bv) (o:Int) (j:Value) (e:Nat) (X:L.heap[e]? = some (.cells (bu l j).toArray 84 (0,0))) (V:¬ T e) (Z:aI (aO.int .i64) (dT T [.box e (bu l j) 84]) L j l.L) (hLv:fi (dT T [.box e (bu l j) 84]) L) (y:LC×bv) (B:lD l o=some y):bj aR (fun k=>k=e) 30 [pt e 0,am o] L (fun v w'=>∃ (P:Value) (sG:bK) (K:Value),v=P/\kJ bG T L w' [kT P sG,.box e (bu y.2 K) 84] 153 P sG y.1/\w'.heap[e]? = some (.cells (bu y.2 K).toArray 84 (0,0))/\aI (aO.int .i64) (dT T [kT P sG,.box e (bu y.2 K) 84]) w' K y.2.L/\j=K):=by
 refine oZ (c:=_) Tryz.func30 rfl T 21 Tryz.ntmps30 hT rfl X V fun a I=>?_;replace I:=(I.fact ci hLv).fS Z;unfold lD at B;refine al I fun a I=>?_;refine aN (J:=fun a w=>∃ (E:LC) (A:LN) (D:Int) (p:Value) (m:LV),St L (fun k=>k=e) T 21 [(5,p)] [kT p m,.box e [j,am D] 84] [ap bG m E,aT (aO.int .i64) j A,ci] a w/\oG E A D=some y) ?_ ?_
 ·refine al I fun a I=>?_;obtain⟨W,N,B⟩:=bd B;refine wl rfl (bJ I oX rfl rfl 0 rfl (bU _ _ (I.drop 0).dlt l (IntKind.i64.wrap (o+1)) _ _ (I.zb 0 rfl) (I.zi 0 rfl) (aI.lent (i:=0) rfl I.g0) _ N) fun _ w C O=>?_);obtain⟨a3,he,hrow,G,q⟩:=C;obtain rfl:=he.symm;subst q;refine⟨(bu W.2 j),hrow,fun a I=>?_⟩;replace I:=I.fS (aI.back (i:=0) rfl G);refine al I fun a I=>?_;replace I:=I.zn bG 153 (by decide);obtain⟨r1,Y,hMo1⟩:=bd B;refine bH _ (fun s a w=>∃ (h:LC) (n:Int) (f:LN) (g:Int) (F:Value) (z:LV),(h,n,f,g)=s/\St L (fun k=>k=e) T 21 [(0,pt e 0),(5,F),(6,am n)] [kT F z,.box e [j,am g] 84] [ap bG z h,aT (aO.int .i64) j f,ci] a w) Y ⟨_,_,_,_,_,_,rfl,I.mt [0,1] [0,1,3]⟩ ?_;rintro s a w f1 ⟨h,n,f,g,F,z,rfl,I⟩ B hf1;have B:oH h n f g=some f1:=B;unfold oH at B;refine aA ?_;refine al I fun a I=>?_;rcases cd B with⟨Q,B⟩|⟨Q,B⟩
  ·refine al I fun a I=>?_;refine aA ?_;refine al I fun a I=>?_;obtain⟨b,M,B⟩:=bd B;refine wl rfl (bJ I Q1 rfl rfl 1 rfl (DX _ _ (I.drop 1).dlt (bv.mk f g) _ _ (I.zb 1 rfl) (I.zi 1 rfl) (aI.lent (i:=1) rfl I.g1) (ci.keep I.g2 (aj _ _) (fun k O=>.inl ((nO (i:=1) rfl k).1 O))) _ M) fun _ w C O=>?_);obtain⟨a4,he,hrow,H,r⟩:=C;obtain rfl:=he.symm;subst r;refine⟨(bu b.2 j),hrow,fun a I=>?_⟩;replace I:=I.fS (aI.back (i:=1) rfl H);refine wl rfl (bf (ps:=[(0,.tmp 17)]) I R9 DK (zl:=[am 0,aU cr,aU cr]) (by kernel_rfl) rfl (us:=[(py b.1)]) ⟨rfl,trivial⟩ (ws:=(py b.1)) rfl rfl rfl rfl fun a0 a w O I=>?_);replace I:=(I.lit (R:=bG) (us:=(py b.1)) (xs:=[(fw.mk (ah.mk b.1.d.k b.1.d.t) b.1.u)]) 0 rfl (by decide) (aJ (R:=bG) (x:=(fw.mk (ah.mk b.1.d.k b.1.d.t) b.1.u)) rfl) rfl rfl).zf (R:=bG) 0 rfl 0 rfl;obtain⟨S,B⟩:=aP B;refine wl rfl (bR (R:=bG) (xs:=h) (ys:=[(fw.mk (ah.mk b.1.d.k b.1.d.t) b.1.u)]) I R9 (by decide) (by decide) rfl rfl 0 rfl 3 rfl 0 rfl S rfl fun a5 a1 a w O I=>?_);refine al I fun a I=>?_;exact fin
  refine al I fun a I=>?_;cases B
  have hr:=hf1 _ rfl;subst hr;have B:oG h f g=some y:=hMo1;exact fin
 rintro a w ⟨E,A,D,p,m,I,B⟩;unfold oG at B;refine al I fun a I=>?_;cases B
 refine aH I rfl (aw I rfl aF) ?_;exact⟨p,m,j,rfl,I.zm ⟨.inr (aD (i:=0) rfl),⟨.inr (aD (i:=1) rfl),trivial⟩⟩ 0 rfl 0 rfl 1 rfl (by decide),I.zb 1 rfl,(aI.up ⟨.inr (aD (i:=0) rfl),⟨.inr (aD (i:=1) rfl),trivial⟩⟩ I.g1),rfl⟩
def mW (b c:Int):=some ((b,c))
def gV (c:LU) (f b:Int):Option (Fl (Int) (Int)):=(bO c f).bind fun d=>cond d.o (cond (decide (b<(c.length:Int))) ((bO c b).bind fun e=>cond e.o (some (.go (IntKind.i64.wrap (b+1)))) (some (.out b))) (some (.out b))) (some (.out b))
def mX (b:LU) (c d:Int):=(loop (fun s:Int=>gV b c s) (IntKind.i64.wrap (c+1))).bind fun r=>mW d r
def gW (c:LU) (f b:Int):Option (Fl (Int) (Int)):=(bO c f).bind fun d=>cond d.o (cond (decide ((0:Int)<b)) ((bO c (IntKind.i64.wrap (b-1))).bind fun e=>cond e.o (some (.go (IntKind.i64.wrap (b-1)))) (some (.out b))) (some (.out b))) (some (.out b))
def pg (b:LU) (c:Int):=cond (decide (c<0)) (some ((0,0))) (cond (decide ((b.length:Int)<=c)) (some ((0,0))) ((loop (fun s:Int=>gW b c s) c).bind fun r=>mX b c r))
theorem xZ (b:LU) (c:Int) (g:Value) (K:aI aC T L g b) (y:Int×Int) (B:pg b c=some y):bj aR No 121 [g,am c] L (fun v w'=>v = .tuple #[am y.1,am y.2]):=by
 refine en Tryz.func121 Tryz.ntmps121 hT fun a I=>?_;replace I:=I.fS (aI.dn K);unfold pg at B;refine al I fun a I=>?_;refine aA ?_;refine dW ?_;refine al I fun a I=>?_;rcases cd B with⟨x,B⟩|⟨x,B⟩
 ·refine al I fun a I=>?_;cases B
  refine aH I Tryz.results121 (aw I rfl (aw I rfl aF)) ?_;exact rfl
 refine al I fun a I=>?_;rcases cd B with⟨z,B⟩|⟨z,B⟩
 ·refine al I fun a I=>?_;cases B
  refine aH I Tryz.results121 (aw I rfl (aw I rfl aF)) ?_;exact rfl
 refine al I fun a I=>?_;refine aN (J:=fun a w=>∃ (d:Int),St L No T 60 [(0,g),(1,am c),(6,am d),(7,am (IntKind.i64.wrap (c+1)))] [] [aT aC g b] a w/\mX b c d=some y) ?_ ?_
 ·refine al I fun a I=>?_;obtain⟨r1,k,hMo1⟩:=bd B;refine bH _ (fun s a w=>∃ (e:Int),e=s/\St L No T 60 [(0,g),(1,am c),(6,am e),(7,am (IntKind.i64.wrap (c+1)))] [] [aT aC g b] a w) k ⟨_,rfl,I.mt [] [0]⟩ ?_;rintro s a w u ⟨e,rfl,I⟩ B hf1;have B:gW b c e=some u:=B;unfold gW at B;refine aA ?_;refine dW ?_;refine al I fun a I=>?_;obtain⟨a0,n,B⟩:=bd B;refine wl rfl (bE (R:=aC) I A2 tY rfl rfl 0 rfl n rfl fun M a2 S A a I=>?_);obtain⟨a7,rfl,p⟩:=A;replace I:=I.fS p;refine al I fun a I=>?_;rcases cd B with⟨D,B⟩|⟨D,B⟩
  ·refine al I fun a I=>?_;rcases cd B with⟨i,B⟩|⟨i,B⟩
   ·refine al I fun a I=>?_;obtain⟨a1,o,B⟩:=bd B;refine wg I rfl rfl rfl i (bE (R:=aC) I A2 tY rfl rfl 2 rfl o rfl fun N a3 V E a I=>?_);obtain⟨a9,rfl,q⟩:=E;replace I:=I.fS q;exact fz
   exact fz
  exact fz
 rintro a w ⟨d,I,B⟩;unfold mX at B;refine aN (J:=fun a w=>∃ (h:Int),St L No T 60 [(6,am d),(7,am h)] [] [] a w/\mW d h=some y) ?_ ?_
 ·refine al I fun a I=>?_;obtain⟨r1,k,hMo1⟩:=bd B;refine bH _ (fun s a w=>∃ (f:Int),f=s/\St L No T 60 [(0,g),(1,am c),(6,am d),(7,am f)] [] [aT aC g b] a w) k ⟨_,rfl,I.mt [] [0]⟩ ?_;rintro s a w u ⟨f,rfl,I⟩ B hf1;have B:gV b c f=some u:=B;unfold gV at B;refine aA ?_;refine dW ?_;refine al I fun a I=>?_;obtain⟨Y,l,B⟩:=bd B;refine wl rfl (bE (R:=aC) I A2 tY rfl rfl 0 rfl l rfl fun P a4 W F a I=>?_);obtain⟨af,rfl,r⟩:=F;replace I:=I.fS r;refine al I fun a I=>?_;rcases cd B with⟨G,B⟩|⟨G,B⟩
  ·refine al I fun a I=>?_;rcases cd B with⟨j,B⟩|⟨j,B⟩
   ·refine al I fun a I=>?_;obtain⟨Z,m,B⟩:=bd B;refine wg I rfl rfl rfl j (bE (R:=aC) I A2 tY rfl rfl 2 rfl m rfl fun Q a5 X H a I=>?_);obtain⟨ag,rfl,t⟩:=H;replace I:=I.fS t;exact fz
   exact fz
  exact fz
 rintro a w ⟨h,I,B⟩;unfold mW at B;refine al I fun a I=>?_;cases B
 refine aH I Tryz.results121 (aw I rfl (aw I rfl aF)) ?_;exact rfl
def od (d:LU) (b:LN) (c:Int):=some ((d,(bv.mk b c)))
def rf (d:Int) (e:LU) (b:LN) (c:Int):Option (Fl (LU×Int×LN×Int) (LU×LN×Int)):=some (.go (e,IntKind.i64.wrap (d+1),b,c))
def oe (c:LU) (b:Int) (f:Bool) (g h:Int) (d:LN) (e:Int) (i:(List fZ)):=(bO c b).bind fun j=>rf b (c.set (Int.toNat b) (aX.mk f i g h)) d e
def rh (d:Int) (b:LN) (c:Int) (e:(List fZ)):Option (Fl (Int×LN×Int×(List fZ)) (LN×Int×(List fZ))):=some (.go (IntKind.i64.wrap (d-1),b,c,e))
def ml (i:Int) (b:(List fZ)) (c:Bool) (d:Int) (g:LN) (h:Int) (e:Bool) (f:Int):=gd (ce (b.length+([(fZ.mk c e d f)]).length)) <| rh i g h (b++([(fZ.mk c e d f)]))
def ki (e:Int) (f:(List fZ)) (g:Bool) (j h:Int) (i:Bool) (c:LN) (d:Int):=cond i ((cz (bv.mk c d) j).bind fun b=>ml e f g h b.2.L b.2.s1 true b.1) (ml e f g h c d false 0)
def mm (j:Bool) (e:Int) (b:(List fZ)) (h:Bool) (f:Int) (c:LN) (d i:Int):=cond (!(j)) (cond (decide ((0:Int)<(b.length:Int))) ((cz (bv.mk c d) 3).bind fun g=>ki e b h f i (g.1==1) g.2.L g.2.s1) (ki e b h f i false c d)) (ki e b h f i false c d)
def mn (g:Bool) (f:Int) (h:(List fZ)) (i:Bool) (b:Int) (k:(Int×bv)) (j:Bool) (d:LN) (e:Int):=cond j ((cz (bv.mk d e) (min b 3)).bind fun c=>mm g f h i b c.2.L c.2.s1 (IntKind.i64.wrap ((IntKind.i64.wrap (b-1))-c.1))) (mm g f h i b d e k.1)
def mo (g:Bool) (f:Int) (h:(List fZ)) (i:LN) (j:Int) (e:Bool) (c:Int):=(cz (bv.mk i j) c).bind fun b=>cond (!(e)) ((cz (bv.mk b.2.L b.2.s1) 2).bind fun d=>mn g f h e c b (d.1==0) d.2.L d.2.s1) (mn g f h e c b false b.2.L b.2.s1)
def kO (h:Int) (f:Bool) (e:Int) (g:(List fZ)) (c:LN) (d:Int) (b:Bool):=cond b (mo f e g c d b 4) (mo f e g c d b h)
def kR (c:Int) (h:Bool) (d:Int) (f:LN) (g:Int) (e:(List fZ)):=cond (decide ((0:Int)<d)) ((cz (bv.mk f g) 3).bind fun b=>cond (b.1==0) (kO c h d e b.2.L b.2.s1 true) (kO c h d e b.2.L b.2.s1 (c==0))) (some (.out (f,g,e)))
def kP (h:LU) (g d:Int) (c:Bool) (e:LN) (f i j:Int):=(cz (bv.mk e f) 4).bind fun b=>(loop (fun s:Int×LN×Int×(List fZ)=>kR d c s.1 s.2.1 s.2.2.1 s.2.2.2) (b.1,b.2.L,b.2.s1,([]:List fZ))).bind fun r=>oe h g c i j r.1 r.2.1 r.2.2
def pE (h:LU) (g d:Int) (e:LN) (f:Int) (b:Bool) (j k:Int):=cond b ((cz (bv.mk e f) 6).bind fun c=>(bO ([0,1,2,4,8,16]) c.1).bind fun i=>kP h g d b c.2.L c.2.s1 5 i) (kP h g d b e f j k)
def kQ (e:LU) (d:Int) (g:LN) (h f:Int):=(bO e d).bind fun i=>(cz (bv.mk g h) 4).bind fun b=>(cz (bv.mk b.2.L b.2.s1) 6).bind fun c=>pE e d f c.2.L c.2.s1 i.o (IntKind.i64.wrap (1+b.1)) c.1
def kS (h c:LU) (b:Int) (d:LN) (e:Int):=cond (decide (b<(h.length:Int))) ((pg c b).bind fun f=>(bO c b).bind fun g=>cond (!(g.o)) (kQ c b d e f.1) (kQ c b d e f.2)) (some (.out (c,d,e)))
def mT (b:LU) (c:LN) (d:Int):=(loop (fun s:LU×Int×LN×Int=>kS b s.1 s.2.1 s.2.2.1 s.2.2.2) (b,0,c,d)).bind fun r=>od r.1 r.2.1 r.2.2
def pF (c:LU) (f:Int) (d:LN) (e:Int):Option (Fl (LU×Int×LN×Int) (LU×LN×Int)):=cond (decide ((0:Int)<f)) ((cz (bv.mk d e) 3).bind fun b=>gd (ce (c.length+([(aX.mk (b.1==1) ([]) 0 0)]).length)) <| some (.go ((c++([(aX.mk (b.1==1) ([]) 0 0)])),IntKind.i64.wrap (f-1),b.2.L,b.2.s1))) (some (.out (c,d,e)))
def tu (c:bv):=(cz c 7).bind fun b=>(loop (fun s:LU×Int×LN×Int=>pF s.1 s.2.1 s.2.2.1 s.2.2.2) (([]:List aX),IntKind.i64.wrap (2+b.1),b.2.L,b.2.s1)).bind fun r=>mT r.1 r.2.1 r.2.2
theorem FF (d4:bv) (h:Value) (e:Nat) (k2:L.heap[e]? = some (.cells (bu d4 h).toArray 84 (0,0))) (i9:¬ T e) (k4:aI (aO.int .i64) (dT T [.box e (bu d4 h) 84]) L h d4.L) (y:LU×bv) (B:tu d4=some y):bj aR (fun k=>k=e) 42 [pt e 0] L (fun v w'=>∃ (v3:Value) (sG:bK) (v5:Value),v=v3/\kJ aC T L w' [cB v3 sG,.box e (bu y.2 v5) 84] 150 v3 sG y.1/\w'.heap[e]? = some (.cells (bu y.2 v5).toArray 84 (0,0))/\aI (aO.int .i64) (dT T [cB v3 sG,.box e (bu y.2 v5) 84]) w' v5 y.2.L/\h=v5):=by
 refine oZ (c:=_) Tryz.func42 rfl T 132 Tryz.ntmps42 hT rfl k2 i9 fun a I=>?_;replace I:=I.fS k4;unfold tu at B;refine al I fun a I=>?_;refine aN (J:=fun a w=>∃ (t:LU) (ed:LN) (ei:Int) (d:Value) (d6:LV),St L (fun k=>k=e) T 132 [(0,pt e 0),(3,d)] [cB d d6,.box e [h,am ei] 84] [ap aC d6 t,aT (aO.int .i64) h ed] a w/\mT t ed ei=some y) ?_ ?_
 ·refine al I fun a I=>?_;obtain⟨js,hk,B⟩:=bd B;refine wl rfl (bJ I oX rfl rfl 0 rfl (bU _ _ (I.drop 0).dlt d4 7 _ _ (I.zb 0 rfl) (I.zi 0 rfl) (aI.lent (i:=0) rfl I.g0) _ hk) fun _ w C O=>?_);obtain⟨n1,he,hrow,fM,c1⟩:=C;obtain rfl:=he.symm;subst c1;refine⟨(bu js.2 h),hrow,fun a I=>?_⟩;replace I:=I.fS (aI.back (i:=0) rfl fM);refine al I fun a I=>?_;replace I:=I.zn aC 150 (by decide);obtain⟨r1,h3,hMo1⟩:=bd B;refine bH _ (fun s a w=>∃ (a7:LU) (d0:Int) (a4:LN) (a5:Int) (f3:Value) (d7:LV),(a7,d0,a4,a5)=s/\St L (fun k=>k=e) T 132 [(0,pt e 0),(3,f3),(4,am d0)] [cB f3 d7,.box e [h,am a5] 84] [ap aC d7 a7,aT (aO.int .i64) h a4] a w) h3 ⟨_,_,_,_,_,_,rfl,I.mt [0,1] [0,1]⟩ ?_;rintro s a w f1 ⟨a7,d0,a4,a5,f3,d7,rfl,I⟩ B hf1;have B:pF a7 d0 a4 a5=some f1:=B;unfold pF at B;refine aA ?_;refine al I fun a I=>?_;rcases cd B with⟨hy,B⟩|⟨hy,B⟩
  ·refine al I fun a I=>?_;refine aA ?_;refine al I fun a I=>?_;obtain⟨V,hj,B⟩:=bd B;refine wl rfl (bJ I oX rfl rfl 1 rfl (bU _ _ (I.drop 1).dlt (bv.mk a4 a5) 3 _ _ (I.zb 1 rfl) (I.zi 1 rfl) (aI.lent (i:=1) rfl I.g1) _ hj) fun _ w C O=>?_);obtain⟨n2,he,hrow,g4,c2⟩:=C;obtain rfl:=he.symm;subst c2;refine⟨(bu V.2 h),hrow,fun a I=>?_⟩;replace I:=I.fS (aI.back (i:=1) rfl g4);refine al I fun a I=>?_;refine qy I (br (ps:=[(0,.tmp 22)]) I Jl we rfl (us:=[[.bool (V.1==1)]]) ⟨rfl,trivial⟩ (ws:=[.bool (V.1==1),.slice none 0 0,am 0,am 0]) rfl) fun a I=>?_;refine wl rfl (bf (ps:=[(0,.tmp 23)]) I NG we (zl:=[.bool false,.slice none 0 0,am 0,am 0]) (by kernel_rfl) rfl (us:=[[.bool (V.1==1),.slice none 0 0,am 0,am 0]]) ⟨rfl,trivial⟩ (ws:=[.bool (V.1==1),.slice none 0 0,am 0,am 0]) rfl rfl rfl rfl fun k5 a w O I=>?_);replace I:=(I.lit (R:=aC) (us:=[.bool (V.1==1),.slice none 0 0,am 0,am 0]) (xs:=[(aX.mk (V.1==1) ([]) 0 0)]) 0 rfl (by decide) (aJ (R:=aC) (x:=(aX.mk (V.1==1) ([]) 0 0)) (⟨_,rfl,aI.nil_ _ _ _⟩)) rfl rfl).zf (R:=aC) 0 rfl 0 rfl;obtain⟨hz,B⟩:=aP B;refine wl rfl (bR (R:=aC) (xs:=a7) (ys:=[(aX.mk (V.1==1) ([]) 0 0)]) I NG (by decide) (by decide) rfl rfl 0 rfl 3 rfl 0 rfl hz rfl fun nd l4 a w O I=>?_);refine al I fun a I=>?_;exact fin
  refine al I fun a I=>?_;cases B
  have hr:=hf1 _ rfl;subst hr;have B:mT a7 a4 a5=some y:=hMo1;exact fin
 rintro a w ⟨t,ed,ei,d,d6,I,B⟩;unfold mT at B;refine aN (J:=fun a w=>∃ (er:LU) (dn:LN) (ds:Int) (c3:LV),St L (fun k=>k=e) T 132 [(3,d)] [cB d c3,.box e [h,am ds] 84] [ap aC c3 er,aT (aO.int .i64) h dn] a w/\od er dn ds=some y) ?_ ?_
 ·refine al I fun a I=>?_;obtain⟨r1,h3,hMo1⟩:=bd B;refine bH _ (fun s a w=>∃ (m:LU) (b:Int) (Q:LN) (S:Int) (g:LV),(m,b,Q,S)=s/\St L (fun k=>k=e) T 132 [(0,pt e 0),(3,d),(27,am (t.length:Int)),(28,am b)] [cB d g,.box e [h,am S] 84] [ap aC g m,aT (aO.int .i64) h Q] a w) h3 ⟨_,_,_,_,_,rfl,I.mt [0,1] [0,1]⟩ ?_;rintro s a w f1 ⟨m,b,Q,S,g,rfl,I⟩ B hf1;have B:kS t m b Q S=some f1:=B;unfold kS at B;refine al I fun a I=>?_;refine aA ?_;rcases cd B with⟨hA,B⟩|⟨hA,B⟩
  ·refine al I fun a I=>?_;refine aN (J:=fun a w=>∃ (et:LU) (e0:LN) (e2:Int) (d8:LV),St L (fun k=>k=e) T 132 [(0,pt e 0),(3,d),(27,am (t.length:Int)),(28,am b)] [cB d d8,.box e [h,am e2] 84] [ap aC d8 et,aT (aO.int .i64) h e0] a w/\rf b et e0 e2=some f1) ?_ ?_
   ·refine al I fun a I=>?_;have hL:=I;replace hL:=hL.zf (R:=aC) 0 rfl 0 rfl;obtain⟨n0,hi,B⟩:=bd B;refine kF I OJ (xZ _ _ hL.dlt m b _ hL.g0 _ hi) fun w a I=>?_;refine aN (J:=fun a w=>∃ (p:Int),St L (fun k=>k=e) T 132 [(0,pt e 0),(3,d),(5,am b),(7,am p),(27,am (t.length:Int)),(28,am b)] [cB d g,.box e [h,am S] 84] [ap aC g m,aT (aO.int .i64) h Q] a w/\kQ m b Q S p=some f1) ?_ ?_
    ·refine al I fun a I=>?_;obtain⟨hx,h8,B⟩:=bd B;refine wl rfl (fo (R:=aC) I A2 tY rfl rfl 0 rfl 0 rfl h8 rfl fun ks m1 m3 la hB hC hD a I=>?_);obtain⟨ng,rfl,hm⟩:=hB;replace I:=I.fS hm;refine al I fun a I=>?_;refine qy I (cK (k:=0) I Qz 0 rfl hC hD rfl id (us:=[.bool hx.o]) rfl rfl (fun _=>rfl)) fun a I=>?_;exact fz
    rintro a w ⟨p,I,B⟩;unfold kQ at B;refine aN (J:=fun a w=>∃ (af:LN) (ag:Int) (n:Bool) (ex ez:Int) (f:Nat),St L (fun k=>k=e) T 132 [(0,pt e 0),(3,d),(5,am b),(7,am p),(8,pt f 0),(27,am (t.length:Int)),(28,am b)] [cB d g,.box e [h,am ag] 84,.box f [.bool n,.slice none 0 0,am ex,am ez] 150] [ap aC g m,aT (aO.int .i64) h af] a w/\pE m b p af ag n ex ez=some f1) ?_ ?_
    ·obtain⟨N196,h6⟩:∃ N,N=w.heap.size:=⟨_,rfl⟩;replace I:=I.fact (KH N196) (sx h6);refine dr [(6,.blk (some e)),(9,.blk (some e)),(12,.new N196)] I fun w hQ I=>?_;refine gE [0,1] I fun a I=>?_;obtain⟨M,h7,B⟩:=bd B;obtain⟨hq,ib,md,le,hE,eq,hF,hG⟩:=n5 (R:=aC) I A2 tY 0 rfl 1 rfl h7;obtain⟨nl,rfl,hn⟩:=hE;replace I:=I.fS hn;refine dq 2 I (v:=pt hq ib) (hG rfl rfl) fun a I=>?_;refine gE [3] I fun a I=>?_;refine dq 4 I (l:=[.blk (some e),.blk (some e)]) (v:=.bool M.o) (cK (k:=0) I Qz 0 rfl eq hF rfl (iU I 0 rfl (zQ eq) 1 rfl rfl (by decide) (iU I 0 rfl (zQ eq) 1 rfl rfl (by decide) cc)) (us:=[.bool M.o]) rfl rfl (fun _=>rfl)) fun a I=>?_;refine gE [5,8] I fun a I=>?_;obtain⟨z,fd,B⟩:=bd B;refine fa (i:=6) (j:=11) rfl rfl (by kernel_rfl) rfl rfl ?_ ?_
     ·skip;refine id (bJ I oX rfl rfl 1 rfl (bU _ _ (I.drop 1).dlt (bv.mk Q S) 4 _ _ (I.zb 1 rfl) (I.zi 1 rfl) (aI.lent (i:=1) rfl I.g3) _ fd) fun _ w C O=>?_);obtain⟨nm,he,hrow,g5,bl⟩:=C;obtain rfl:=he.symm;subst bl;refine⟨(bu z.2 h),hrow,fun a I=>⟨lw rfl O jW,?_⟩⟩;replace I:=I.fS (aI.back (i:=1) rfl g5);refine gE [7] I fun a I=>?_;obtain⟨Y,fl,B⟩:=bd B;refine fa (i:=9) (j:=11) rfl rfl (by kernel_rfl) rfl rfl ?_ ?_
      ·skip;refine id (bJ I oX rfl rfl 1 rfl (bU _ _ (I.drop 1).dlt (bv.mk z.2.L z.2.s1) 6 _ _ (I.zb 1 rfl) (I.zi 1 rfl) (aI.lent (i:=1) rfl I.g0) _ fl) fun _ w C O=>?_);obtain⟨no,he,hrow,g6,bs⟩:=C;obtain rfl:=he.symm;subst bs;refine⟨(bu Y.2 h),hrow,fun a I=>⟨lw rfl O jW,?_⟩⟩;replace I:=I.fS (aI.back (i:=1) rfl g6);refine dq 10 I (v:=.agg #[.bool M.o,.slice none 0 0,am (IntKind.i64.wrap (1+z.1)),am Y.1]) (br (ps:=[(0,.tmp 48),(2,.tmp 51),(3,.tmp 53)]) I Jl we rfl (us:=[[.bool M.o],[am (IntKind.i64.wrap (1+z.1))],[am Y.1]]) ⟨rfl,⟨rfl,⟨rfl,trivial⟩⟩⟩ (ws:=[.bool M.o,.slice none 0 0,am (IntKind.i64.wrap (1+z.1)),am Y.1]) rfl) fun a I=>?_;have hI:=(I.g3:N196<=w.heap.size);refine e1 11 (dZ I we rfl fun hs hK a w O I=>⟨iJ (O),?_⟩);refine eR 12 (.blk (some hs)) _ (by kernel_rfl) (rL (cN hI hK)) ?_;refine es 12 I fun w I=>?_;refine eD ?_;exact fin
      skip;have hM:=(I.g2:N196<=w.heap.size);refine id (dZ I we rfl fun ht hN a w O I=>⟨iJ (O),?_⟩);refine eR 12 (.blk (some ht)) _ (by kernel_rfl) (rL (cN hM hN)) ?_;refine e1 9 (bJ I oX rfl rfl 2 rfl (bU _ _ (I.drop 2).dlt (bv.mk z.2.L z.2.s1) 6 _ _ (I.zb 2 rfl) (I.zi 2 rfl) (aI.lent (i:=2) rfl I.g0) _ fl) fun _ w C O=>?_);obtain⟨k0,he,hrow,av,P⟩:=C;obtain rfl:=he.symm;subst P;refine⟨(bu Y.2 h),hrow,fun a I=>⟨lw rfl O jW,?_⟩⟩;replace I:=I.fS (aI.back (i:=2) rfl av);refine dq 10 I (v:=.agg #[.bool M.o,.slice none 0 0,am (IntKind.i64.wrap (1+z.1)),am Y.1]) (br (ps:=[(0,.tmp 48),(2,.tmp 51),(3,.tmp 53)]) I Jl we rfl (us:=[[.bool M.o],[am (IntKind.i64.wrap (1+z.1))],[am Y.1]]) ⟨rfl,⟨rfl,⟨rfl,trivial⟩⟩⟩ (ws:=[.bool M.o,.slice none 0 0,am (IntKind.i64.wrap (1+z.1)),am Y.1]) rfl) fun a I=>?_;refine es 12 I fun w I=>?_;refine eD ?_;exact fin
     skip;have hO:=(I.g1:N196<=w.heap.size);refine id (dZ I we rfl fun hu hP a w O I=>⟨iJ (O),?_⟩);refine eR 12 (.blk (some hu)) _ (by kernel_rfl) (rL (cN hO hP)) ?_;refine e1 6 (bJ I oX rfl rfl 2 rfl (bU _ _ (I.drop 2).dlt (bv.mk Q S) 4 _ _ (I.zb 2 rfl) (I.zi 2 rfl) (aI.lent (i:=2) rfl I.g3) _ fd) fun _ w C O=>?_);obtain⟨ns,he,hrow,g7,bt⟩:=C;obtain rfl:=he.symm;subst bt;refine⟨(bu z.2 h),hrow,fun a I=>⟨lw rfl O jW,?_⟩⟩;replace I:=I.fS (aI.back (i:=2) rfl g7);refine gE [7] I fun a I=>?_;obtain⟨d2,hl,B⟩:=bd B;refine e1 9 (bJ I oX rfl rfl 2 rfl (bU _ _ (I.drop 2).dlt (bv.mk z.2.L z.2.s1) 6 _ _ (I.zb 2 rfl) (I.zi 2 rfl) (aI.lent (i:=2) rfl I.g0) _ hl) fun _ w C O=>?_);obtain⟨k0,he,hrow,av,P⟩:=C;obtain rfl:=he.symm;subst P;refine⟨(bu d2.2 h),hrow,fun a I=>⟨lw rfl O jW,?_⟩⟩;replace I:=I.fS (aI.back (i:=2) rfl av);refine dq 10 I (v:=.agg #[.bool M.o,.slice none 0 0,am (IntKind.i64.wrap (1+z.1)),am d2.1]) (br (ps:=[(0,.tmp 48),(2,.tmp 51),(3,.tmp 53)]) I Jl we rfl (us:=[[.bool M.o],[am (IntKind.i64.wrap (1+z.1))],[am d2.1]]) ⟨rfl,⟨rfl,⟨rfl,trivial⟩⟩⟩ (ws:=[.bool M.o,.slice none 0 0,am (IntKind.i64.wrap (1+z.1)),am d2.1]) rfl) fun a I=>?_;refine es 12 I fun w I=>?_;refine eD ?_;exact fin
    rintro a w ⟨af,ag,n,ex,ez,f,I,B⟩;unfold pE at B;refine aN (J:=fun a w=>∃ (ck:LN) (cl A D:Int),St L (fun k=>k=e) T 132 [(0,pt e 0),(3,d),(5,am b),(7,am p),(8,pt f 0),(27,am (t.length:Int)),(28,am b)] [cB d g,.box e [h,am cl] 84,.box f [.bool n,.slice none 0 0,am A,am D] 150] [ap aC g m,aT (aO.int .i64) h ck] a w/\kP m b p n ck cl A D=some f1) ?_ ?_
    ·refine al I fun a I=>?_;rcases cd B with⟨hV,B⟩|⟨hV,B⟩
     ·refine al I fun a I=>?_;refine dr [(2,.blk (some e)),(6,.blk (some f)),(8,.blk (some f))] I fun w hQ I=>?_;refine gE [1,5] I fun a I=>?_;obtain⟨h4,f6,B⟩:=bd B;refine fa (i:=0) (j:=2) rfl rfl (by kernel_rfl) rfl rfl ?_ ?_
      ·skip;refine id (bf (ps:=[(0,.const (am 0)),(1,.const (am 1)),(2,.const (am 2)),(3,.const (am 4)),(4,.const (am 8)),(5,.const (am 16))]) I NF Tg (zl:=[am 0,am 0,am 0,am 0,am 0,am 0]) (by kernel_rfl) rfl (us:=[[am 0],[am 1],[am 2],[am 4],[am 8],[am 16]]) ⟨rfl,⟨rfl,⟨rfl,⟨rfl,⟨rfl,⟨rfl,trivial⟩⟩⟩⟩⟩⟩ (ws:=[am 0,am 1,am 2,am 4,am 8,am 16]) rfl rfl rfl rfl fun kt a w O I=>⟨iJ (O),?_⟩);refine e1 2 (bJ I oX rfl rfl 2 rfl (bU _ _ (I.drop 2).dlt (bv.mk af ag) 6 _ _ (I.zb 2 rfl) (I.zi 2 rfl) (aI.lent (i:=2) rfl I.g1) _ f6) fun _ w C O=>?_);obtain⟨nB,he,hrow,g8,bi⟩:=C;obtain rfl:=he.symm;subst bi;refine⟨(bu h4.2 h),hrow,fun a I=>⟨lw rfl O jW,?_⟩⟩;replace I:=((I.fS (aI.back (i:=2) rfl g8)).lit (R:=(aO.int .i64)) (us:=[am 0,am 1,am 2,am 4,am 8,am 16]) (xs:=[0,1,2,4,8,16]) 0 rfl (by decide) ((aJ (R:=(aO.int .i64)) (x:=0) rfl).append ((aJ (R:=(aO.int .i64)) (x:=1) rfl).append ((aJ (R:=(aO.int .i64)) (x:=2) rfl).append ((aJ (R:=(aO.int .i64)) (x:=4) rfl).append ((aJ (R:=(aO.int .i64)) (x:=8) rfl).append (aJ (R:=(aO.int .i64)) (x:=16) rfl)))))) rfl rfl).zf (R:=(aO.int .i64)) 0 rfl 0 rfl;obtain⟨a6,Z,B⟩:=bd B;obtain⟨a9,b0,fn,ak,an,I⟩:=nw (R:=(aO.int .i64)) I Ky F3 0 rfl Z;obtain rfl:=ak;refine dq 3 I (v:=pt a9 b0) (an rfl rfl) fun a I=>?_;refine dq 4 I (l:=[.blk (some f)]) (v:=am a6) (xG (k:=0) I F3 0 rfl rfl (Lj 2 rfl rfl Ft) (us:=[am a6]) rfl rfl (fun _=>rfl)) fun a I=>?_;refine es 6 I fun w I=>?_;refine gE [7] I fun a I=>?_;refine es 8 I fun w I=>?_;refine eD ?_;exact fin
      skip;refine id (bJ I oX rfl rfl 1 rfl (bU _ _ (I.drop 1).dlt (bv.mk af ag) 6 _ _ (I.zb 1 rfl) (I.zi 1 rfl) (aI.lent (i:=1) rfl I.g1) _ f6) fun _ w C O=>?_);obtain⟨of,he,hrow,g9,bb⟩:=C;obtain rfl:=he.symm;subst bb;refine⟨(bu h4.2 h),hrow,fun a I=>⟨lw rfl O jW,?_⟩⟩;replace I:=I.fS (aI.back (i:=1) rfl g9);refine fa (i:=0) (j:=6) rfl rfl (by kernel_rfl) rfl rfl ?_ ?_
      ·skip;refine id (bf (ps:=[(0,.const (am 0)),(1,.const (am 1)),(2,.const (am 2)),(3,.const (am 4)),(4,.const (am 8)),(5,.const (am 16))]) I NF Tg (zl:=[am 0,am 0,am 0,am 0,am 0,am 0]) (by kernel_rfl) rfl (us:=[[am 0],[am 1],[am 2],[am 4],[am 8],[am 16]]) ⟨rfl,⟨rfl,⟨rfl,⟨rfl,⟨rfl,⟨rfl,trivial⟩⟩⟩⟩⟩⟩ (ws:=[am 0,am 1,am 2,am 4,am 8,am 16]) rfl rfl rfl rfl fun hv a w O I=>⟨iJ (O),?_⟩);replace I:=(I.lit (R:=(aO.int .i64)) (us:=[am 0,am 1,am 2,am 4,am 8,am 16]) (xs:=[0,1,2,4,8,16]) 0 rfl (by decide) ((aJ (R:=(aO.int .i64)) (x:=0) rfl).append ((aJ (R:=(aO.int .i64)) (x:=1) rfl).append ((aJ (R:=(aO.int .i64)) (x:=2) rfl).append ((aJ (R:=(aO.int .i64)) (x:=4) rfl).append ((aJ (R:=(aO.int .i64)) (x:=8) rfl).append (aJ (R:=(aO.int .i64)) (x:=16) rfl)))))) rfl rfl).zf (R:=(aO.int .i64)) 0 rfl 0 rfl;obtain⟨a6,Z,B⟩:=bd B;obtain⟨a9,b0,fn,ak,an,I⟩:=nw (R:=(aO.int .i64)) I Ky F3 0 rfl Z;obtain rfl:=ak;refine dq 3 I (v:=pt a9 b0) (an rfl rfl) fun a I=>?_;refine dq 4 I (l:=[.blk (some f)]) (v:=am a6) (xG (k:=0) I F3 0 rfl rfl (Lj 2 rfl rfl Ft) (us:=[am a6]) rfl rfl (fun _=>rfl)) fun a I=>?_;refine es 6 I fun w I=>?_;refine gE [7] I fun a I=>?_;refine es 8 I fun w I=>?_;refine eD ?_;exact fin
      skip;refine id (vt I rfl rfl (us:=[am 5]) rfl F3 2 rfl rfl rfl (oc rfl on) fun w O I=>⟨lw rfl O jW,?_⟩);refine e1 0 (bf (ps:=[(0,.const (am 0)),(1,.const (am 1)),(2,.const (am 2)),(3,.const (am 4)),(4,.const (am 8)),(5,.const (am 16))]) I NF Tg (zl:=[am 0,am 0,am 0,am 0,am 0,am 0]) (by kernel_rfl) rfl (us:=[[am 0],[am 1],[am 2],[am 4],[am 8],[am 16]]) ⟨rfl,⟨rfl,⟨rfl,⟨rfl,⟨rfl,⟨rfl,trivial⟩⟩⟩⟩⟩⟩ (ws:=[am 0,am 1,am 2,am 4,am 8,am 16]) rfl rfl rfl rfl fun hv a w O I=>⟨iJ (O),?_⟩);replace I:=(I.lit (R:=(aO.int .i64)) (us:=[am 0,am 1,am 2,am 4,am 8,am 16]) (xs:=[0,1,2,4,8,16]) 0 rfl (by decide) ((aJ (R:=(aO.int .i64)) (x:=0) rfl).append ((aJ (R:=(aO.int .i64)) (x:=1) rfl).append ((aJ (R:=(aO.int .i64)) (x:=2) rfl).append ((aJ (R:=(aO.int .i64)) (x:=4) rfl).append ((aJ (R:=(aO.int .i64)) (x:=8) rfl).append (aJ (R:=(aO.int .i64)) (x:=16) rfl)))))) rfl rfl).zf (R:=(aO.int .i64)) 0 rfl 0 rfl;obtain⟨a6,Z,B⟩:=bd B;obtain⟨a9,b0,fn,ak,an,I⟩:=nw (R:=(aO.int .i64)) I Ky F3 0 rfl Z;obtain rfl:=ak;refine dq 3 I (v:=pt a9 b0) (an rfl rfl) fun a I=>?_;refine gE [4,7] I fun a I=>?_;refine es 8 I fun w I=>?_;refine eD ?_;exact fin
     exact fz
    rintro a w ⟨ck,cl,A,D,I,B⟩;unfold kP at B;refine aN (J:=fun a w=>∃ (e3:LN) (e4:Int) (d1:(List fZ)) (d3:Value) (d9:LV),St L (fun k=>k=e) T 132 [(0,pt e 0),(3,d),(5,am b),(8,pt f 0),(27,am (t.length:Int)),(28,am b)] [cB d g,.box e [h,am e4] 84,zP d3 d9,.box f [.bool n,d3,am A,am D] 150] [ap aC g m,aT (aO.int .i64) h e3,ap gg d9 d1] a w/\oe m b n A D e3 e4 d1=some f1) ?_ ?_
    ·refine al I fun a I=>?_;obtain⟨jb,hh,B⟩:=bd B;refine wl rfl (bJ I oX rfl rfl 1 rfl (bU _ _ (I.drop 1).dlt (bv.mk ck cl) 4 _ _ (I.zb 1 rfl) (I.zi 1 rfl) (aI.lent (i:=1) rfl I.g1) _ hh) fun _ w C O=>?_);obtain⟨oi,he,hrow,gb,b3⟩:=C;obtain rfl:=he.symm;subst b3;refine⟨(bu jb.2 h),hrow,fun a I=>?_⟩;replace I:=I.fS (aI.back (i:=1) rfl gb);refine al I fun a I=>?_;replace I:=I.zn gg 147 (by decide);obtain⟨r2,k3,hMo2⟩:=bd B;refine bH _ (fun s a w=>∃ (r:Int) (a2:LN) (a3:Int) (u:(List fZ)) (F:Value) (E:LV),(r,a2,a3,u)=s/\St L (fun k=>k=e) T 132 [(0,pt e 0),(3,d),(5,am b),(7,am p),(8,pt f 0),(9,am r),(27,am (t.length:Int)),(28,am b)] [cB d g,.box e [h,am a3] 84,zP F E,.box f [.bool n,F,am A,am D] 150] [ap aC g m,aT (aO.int .i64) h a2,ap gg E u] a w) k3 ⟨_,_,_,_,_,_,rfl,I.mt [1,2,0,3] [2,1,0]⟩ ?_;rintro s a w f2 ⟨r,a2,a3,u,F,E,rfl,I⟩ B hf2;have B:kR p n r a2 a3 u=some f2:=B;unfold kR at B;refine aA ?_;refine al I fun a I=>?_;rcases cd B with⟨hW,B⟩|⟨hW,B⟩
     ·refine al I fun a I=>?_;refine aN (J:=fun a w=>∃ (e5:LN) (e6:Int) (ew:(List fZ)) (f4:Value) (dl:LV),St L (fun k=>k=e) T 132 [(0,pt e 0),(3,d),(5,am b),(7,am p),(8,pt f 0),(9,am r),(27,am (t.length:Int)),(28,am b)] [cB d g,.box e [h,am e6] 84,zP f4 dl,.box f [.bool n,f4,am A,am D] 150] [ap aC g m,aT (aO.int .i64) h e5,ap gg dl ew] a w/\rh r e5 e6 ew=some f2) ?_ ?_
      ·refine al I fun a I=>?_;refine aN (J:=fun a w=>∃ (a0:LN) (a1:Int) (q:Bool) (G:Nat),St L (fun k=>k=e) T 132 [(0,pt e 0),(3,d),(5,am b),(7,am p),(8,pt f 0),(9,am r),(10,pt G 0),(27,am (t.length:Int)),(28,am b)] [cB d g,.box e [h,am a1] 84,zP F E,.box f [.bool n,F,am A,am D] 150,.box G [.bool q,.bool false,am 0,am 0] 147] [ap aC g m,aT (aO.int .i64) h a0,ap gg E u] a w/\kO p n r u a0 a1 q=some f2) ?_ ?_
       ·refine al I fun a I=>?_;obtain⟨j3,hg,B⟩:=bd B;refine wl rfl (bJ I oX rfl rfl 1 rfl (bU _ _ (I.drop 1).dlt (bv.mk a2 a3) 3 _ _ (I.zb 1 rfl) (I.zi 1 rfl) (aI.lent (i:=1) rfl I.g1) _ hg) fun _ w C O=>?_);obtain⟨oj,he,hrow,gi,b9⟩:=C;obtain rfl:=he.symm;subst b9;refine⟨(bu j3.2 h),hrow,fun a I=>?_⟩;replace I:=I.fS (aI.back (i:=1) rfl gi);refine al I fun a I=>?_;rcases cd B with⟨hX,B⟩|⟨hX,B⟩
        ·refine al I fun a I=>?_;refine qy I (br (ps:=[(0,.tmp 76)]) I Pe DJ rfl (us:=[[.bool true]]) ⟨rfl,trivial⟩ (ws:=[.bool true,.bool false,am 0,am 0]) rfl) fun a I=>?_;refine ka I DJ fun kx lv a w O I=>?_;exact fz
        refine al I fun a I=>?_;refine qy I (br (ps:=[(0,.tmp 76)]) I Pe DJ rfl (us:=[[.bool (p==0)]]) ⟨rfl,trivial⟩ (ws:=[.bool (p==0),.bool false,am 0,am 0]) rfl) fun a I=>?_;refine ka I DJ fun l0 m0 a w O I=>?_;exact fz
       rintro a w ⟨a0,a1,q,G,I,B⟩;unfold kO at B;refine al I fun a I=>?_;refine aN (J:=fun a w=>∃ (K:Int),St L (fun k=>k=e) T 132 [(0,pt e 0),(3,d),(5,am b),(7,am p),(8,pt f 0),(9,am r),(10,pt G 0),(11,am K),(27,am (t.length:Int)),(28,am b)] [cB d g,.box e [h,am a1] 84,zP F E,.box f [.bool n,F,am A,am D] 150,.box G [.bool q,.bool false,am 0,am 0] 147] [ap aC g m,aT (aO.int .i64) h a0,ap gg E u] a w/\mo n r u a0 a1 q K=some f2) ?_ ?_
       ·exact fz
       rintro a w ⟨K,I,B⟩;unfold mo at B;refine al I fun a I=>?_;obtain⟨b2,hc,B⟩:=bd B;refine wl rfl (bJ I oX rfl rfl 1 rfl (bU _ _ (I.drop 1).dlt (bv.mk a0 a1) K _ _ (I.zb 1 rfl) (I.zi 1 rfl) (aI.lent (i:=1) rfl I.g1) _ hc) fun _ w C O=>?_);obtain⟨ok,he,hrow,gs,b4⟩:=C;obtain rfl:=he.symm;subst b4;refine⟨(bu b2.2 h),hrow,fun a I=>?_⟩;replace I:=I.fS (aI.back (i:=1) rfl gs);refine go I fun a w I=>?_;refine aN (J:=fun a w=>∃ (c6:LN) (c9 H:Int),St L (fun k=>k=e) T 132 [(0,pt e 0),(3,d),(5,am b),(7,am p),(8,pt f 0),(9,am r),(10,pt G 0),(11,am K),(27,am (t.length:Int)),(28,am b)] [cB d g,.box e [h,am c9] 84,zP F E,.box f [.bool n,F,am A,am D] 150,.box G [.bool q,.bool false,am H,am 0] 147] [ap aC g m,aT (aO.int .i64) h c6,ap gg E u] a w/\mm n r u q K c6 c9 H=some f2) ?_ ?_
       ·refine aN (J:=fun a w=>∃ (eo:Bool) (ca:LN) (ch:Int),St L (fun k=>k=e) T 132 [(0,pt e 0),(3,d),(5,am b),(7,am p),(8,pt f 0),(9,am r),(10,pt G 0),(11,am K),(27,am (t.length:Int)),(28,am b),(92,.bool eo)] [cB d g,.box e [h,am ch] 84,zP F E,.box f [.bool n,F,am A,am D] 150,.box G [.bool q,.bool false,am b2.1,am 0] 147] [ap aC g m,aT (aO.int .i64) h ca,ap gg E u] a w/\mn n r u q K b2 eo ca ch=some f2) ?_ ?_
        ·refine al I fun a I=>?_;rcases cd B with⟨fr,B⟩|⟨fr,B⟩
         ·refine al I fun a I=>?_;obtain⟨j1,hf,B⟩:=bd B;refine wg I rfl rfl rfl fr (bJ I oX rfl rfl 1 rfl (bU _ _ (I.drop 1).dlt (bv.mk b2.2.L b2.2.s1) 2 _ _ (I.zb 1 rfl) (I.zi 1 rfl) (aI.lent (i:=1) rfl I.g0) _ hf) fun _ w C O=>?_);obtain⟨op,he,hrow,gu,b8⟩:=C;obtain rfl:=he.symm;subst b8;refine⟨(bu j1.2 h),hrow,fun a I=>?_⟩;replace I:=I.fS (aI.back (i:=1) rfl gu);exact fz
         exact fz
        rintro a w ⟨eo,ca,ch,I,B⟩;unfold mn at B;rcases cd B with⟨hY,B⟩|⟨hY,B⟩
        ·refine al I fun a I=>?_;refine qy I (JI I rfl rfl) fun a I=>?_;obtain⟨j0,hd,B⟩:=bd B;refine wl rfl (bJ I oX rfl rfl 1 rfl (bU _ _ (I.drop 1).dlt (bv.mk ca ch) (min K 3) _ _ (I.zb 1 rfl) (I.zi 1 rfl) (aI.lent (i:=1) rfl I.g1) _ hd) fun _ w C O=>?_);obtain⟨os,he,hrow,h0,b7⟩:=C;obtain rfl:=he.symm;subst b7;refine⟨(bu j0.2 h),hrow,fun a I=>?_⟩;replace I:=I.fS (aI.back (i:=1) rfl h0);exact fz
        exact fz
       rintro a w ⟨c6,c9,H,I,B⟩;unfold mm at B;refine aN (J:=fun a w=>∃ (e7:LN) (ea:Int) (W:Bool) (X:Int),St L (fun k=>k=e) T 132 [(0,pt e 0),(3,d),(5,am b),(7,am p),(8,pt f 0),(9,am r),(10,pt G 0),(27,am (t.length:Int)),(28,am b)] [cB d g,.box e [h,am ea] 84,zP F E,.box f [.bool n,F,am A,am D] 150,.box G [.bool q,.bool W,am H,am X] 147] [ap aC g m,aT (aO.int .i64) h e7,ap gg E u] a w/\ml r u q H e7 ea W X=some f2) ?_ ?_
       ·refine aN (J:=fun a w=>∃ (el:Bool) (c4:LN) (c5:Int),St L (fun k=>k=e) T 132 [(0,pt e 0),(3,d),(5,am b),(7,am p),(8,pt f 0),(9,am r),(10,pt G 0),(11,am K),(27,am (t.length:Int)),(28,am b),(114,.bool el)] [cB d g,.box e [h,am c5] 84,zP F E,.box f [.bool n,F,am A,am D] 150,.box G [.bool q,.bool false,am H,am 0] 147] [ap aC g m,aT (aO.int .i64) h c4,ap gg E u] a w/\ki r u q K H el c4 c5=some f2) ?_ ?_
        ·refine al I fun a I=>?_;rcases cd B with⟨i0,B⟩|⟨i0,B⟩
         ·refine al I fun a I=>?_;rcases cd B with⟨fs,B⟩|⟨fs,B⟩
          ·refine al I fun a I=>?_;obtain⟨ii,ha,B⟩:=bd B;refine wg I rfl rfl rfl fs (bJ I oX rfl rfl 1 rfl (bU _ _ (I.drop 1).dlt (bv.mk c6 c9) 3 _ _ (I.zb 1 rfl) (I.zi 1 rfl) (aI.lent (i:=1) rfl I.g1) _ ha) fun _ w C O=>?_);obtain⟨p0,he,hrow,h1,b6⟩:=C;obtain rfl:=he.symm;subst b6;refine⟨(bu ii.2 h),hrow,fun a I=>?_⟩;replace I:=I.fS (aI.back (i:=1) rfl h1);exact fz
          exact fz
         exact fz
        rintro a w ⟨el,c4,c5,I,B⟩;unfold ki at B;rcases cd B with⟨i1,B⟩|⟨i1,B⟩
        ·refine al I fun a I=>?_;obtain⟨ih,h9,B⟩:=bd B;refine wl rfl (bJ I oX rfl rfl 1 rfl (bU _ _ (I.drop 1).dlt (bv.mk c4 c5) K _ _ (I.zb 1 rfl) (I.zi 1 rfl) (aI.lent (i:=1) rfl I.g1) _ h9) fun _ w C O=>?_);obtain⟨p1,he,hrow,h2,b5⟩:=C;obtain rfl:=he.symm;subst b5;refine⟨(bu ih.2 h),hrow,fun a I=>?_⟩;replace I:=I.fS (aI.back (i:=1) rfl h2);exact fz
        refine al I fun a I=>?_;exact fin
       rintro a w ⟨e7,ea,W,X,I,B⟩;unfold ml at B;refine al I fun a I=>?_;refine wl rfl (bf (ps:=[(0,.tmp 122)]) I Lh DJ (zl:=[.bool false,.bool false,am 0,am 0]) (by kernel_rfl) rfl (us:=[[.bool q,.bool W,am H,am X]]) ⟨rfl,trivial⟩ (ws:=[.bool q,.bool W,am H,am X]) rfl rfl rfl rfl fun l1 a w O I=>?_);replace I:=(I.lit (R:=gg) (us:=[.bool q,.bool W,am H,am X]) (xs:=[(fZ.mk q W H X)]) 0 rfl (by decide) (aJ (R:=gg) (x:=(fZ.mk q W H X)) rfl) rfl rfl).zf (R:=gg) 0 rfl 0 rfl;obtain⟨i2,B⟩:=aP B;refine wl rfl (bR (R:=gg) (xs:=u) (ys:=[(fZ.mk q W H X)]) I Lh (by decide) (by decide) rfl rfl 2 rfl 4 rfl 0 rfl i2 rfl fun p2 ll a w O I=>?_);exact fz
      rintro a w ⟨e5,e6,ew,f4,dl,I,B⟩;unfold rh at B;exact fz
     refine al I fun a I=>?_;cases B
     have hr:=hf2 _ rfl;subst hr;have B:oe m b n A D a2 a3 u=some f1:=hMo2;exact fin
    rintro a w ⟨e3,e4,d1,d3,d9,I,B⟩;unfold oe at B;refine al I fun a I=>?_;obtain⟨hw,f5,B⟩:=bd B;refine wl rfl (fo (R:=aC) I A2 tY rfl rfl 0 rfl 0 rfl f5 rfl fun l2 m2 ms ls i3 i4 i5 a I=>?_);obtain⟨k1,rfl,ho⟩:=i3;replace I:=(I.fS ho).zf (R:=gg) 2 rfl 3 rfl;refine wl rfl (zJ (R:=aC) (k:=0) (cs:=(xQ hw k1)) (us:=[.bool n,d3,am A,am D]) (x':=(aX.mk n d1 A D)) I rfl rfl rfl tY 0 rfl 2 rfl i4 i5 f5 (⟨_,rfl,I.g1⟩) rfl rfl (⟨_,rfl,I.g0⟩) fun lt w O I=>?_);exact fz
   rintro a w ⟨et,e0,e2,d8,I,B⟩;unfold rf at B;exact fz
  refine al I fun a I=>?_;cases B
  have hr:=hf1 _ rfl;subst hr;have B:od m Q S=some y:=hMo1;exact fin
 rintro a w ⟨er,dn,ds,c3,I,B⟩;unfold od at B;refine al I fun a I=>?_;cases B
 refine aH I rfl (aw I rfl aF) ?_;exact⟨d,c3,h,rfl,I.zm ⟨.inr (aD (i:=0) rfl),⟨.inr (aD (i:=1) rfl),trivial⟩⟩ 0 rfl 0 rfl 1 rfl (by decide),I.zb 1 rfl,(aI.up ⟨.inr (aD (i:=0) rfl),⟨.inr (aD (i:=1) rfl),trivial⟩⟩ I.g1),rfl⟩
end
end
end Go.Proofs.YtcpplgcgcbihoaaGreatDoor
