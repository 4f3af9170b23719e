/- Texts of the proof, joined (1). -/
import Derived.Test.YthefmilamdchiaaGreatDoorA0
import Derived.Maps.RangeRun
import Derived.Test.YthefmilamdchiaaGreatDoorProg
import Derived.Lib.SliceRun
import Derived.Lib.AppendZerosOnto
import Derived.Lib.Overlaps
import Derived.Laws.Externs
set_option linter.unusedVariables false
set_option linter.unusedSimpArgs false
set_option linter.unusedSectionVars false
namespace Go.Proofs.YthefmilamdchiaaGreatDoor
section
open Go.RowKit
def CJ (f g:bW):bW:=⟨fun T w=>f.p T w∧g.p T w,fun h k n=>⟨f.keep h.1 k n,g.keep h.2 k n⟩⟩
def vW:bW:=⟨fun _ _=>True,fun _ _ _=>trivial⟩
section
variable {P:Program} {W:World} {M T E:Nat→Prop} {n:Nat} {G G':List (Nat×Value)} {D D' D0 Dr rs:List cx} {F F':List bW} {a:Act} {w w':World} {K:Act→World→Prop}
theorem yL {d:Option Nat} {f:Nat} {caps:Array Operand} {ty:TypeId} {pos:String} {af:Array Edge} {g:Option (Nat×Bool)} {vs:List Value} (hS:St W M T n G D F a w) (hv:evs G caps.toList=some vs) :
    Ye P ⟨d,.makeFunc (.func f) #[] caps,ty,pos,af,g⟩ a E w (.func (.func f) #[] vs.toArray) :=
  Ye.of fun w=>by
    have h1:(caps.map a.eval)=vs.toArray:=by
      apply Array.toList_inj.1
      rw [Array.toList_map,hS.evs hv]
    simp [execOp,Instr.makeFunc,h1]
theorem St.freezeBox {b:Nat} {cs:List Value} {t:TypeId} (h:St W M T n G D F a w) (i:Nat) (hi:D[i]? = some (.box b cs t)):St W M T n G (D.eraseIdx i) (lN b 0 cs :: F) a w:=by
  have hlt:=(List.getElem?_eq_some_iff.1 hi).1
  have hD:=(List.getElem?_eq_some_iff.1 hi).2
  have ho:w.heap[b]? = some (.cells cs.toArray t (0,0)):=h.own _ (List.mem_of_getElem? hi)
  refine (h.drop i).fact _ ⟨fun hT=>?_,(Array.getElem?_eq_some_iff.1 ho).1,fun j u hu=>?_⟩
  · rcases hT with hT | ⟨s,hs,hT⟩
    · exact (h.free _ (List.mem_of_getElem? hi) b rfl).1 hT
    · obtain ⟨z,hz⟩:=List.mem_iff_getElem?.1 hs
      rw [List.getElem?_eraseIdx] at hz
      split at hz
      · rename_i hzi
        have hzl:=(List.getElem?_eq_some_iff.1 hz).1
        have:=List.pairwise_iff_getElem.1 h.apart z i hzl hlt hzi b (by rw [(List.getElem?_eq_some_iff.1 hz).2]; exact hT)
        rw [hD] at this; exact this rfl
      · rename_i hzi
        have hzl:=(List.getElem?_eq_some_iff.1 hz).1
        have:=List.pairwise_iff_getElem.1 h.apart i (z + 1) hlt hzl (by omega) b (by rw [hD]; rfl)
        rw [(List.getElem?_eq_some_iff.1 hz).2] at this; exact this hT
  · rw [Nat.zero_add,(ul.of ho).cell]
    simpa using hu
theorem jR.mid {e:TypeId} {sz:Nat} {v:Value} {cl us:List Value} {B:Nat} (h:jR w B e sz v cl) (o:Nat) (hl:o + us.length≤cl.length) (hpos:0 < us.length) :
    ∃ g off m c cs,v = .slice (some ⟨g,off,none⟩) m c∧cl.length=m * sz∧m≤c∧ul w g cs e∧off + c * sz≤cs.size∧jR (w.setCells g (off + o) us) B e sz v (lK cl o us)∧(∀ j,j < us.length→(w.cell? ⟨g,off + o + j,none⟩).isSome=true)∧(∀ j,j < us.length→w.frozen? ⟨g,off + o + j,none⟩=false):=by
  rcases h with ⟨_,rfl⟩ | ⟨g,off,m,c,cs,rfl,h1,hb,hg,hmc,hc,hsz,hcs⟩
  · simp only [List.length_nil] at hl; omega
  have hmz:m * sz≤c * sz:=Nat.mul_le_mul_right _ hmc
  refine ⟨g,off,m,c,cs,rfl,h1,hmc,hg,hsz,?_,fun j hj=>?_,fun j hj=>hg.free (by omega)⟩
  · obtain ⟨fz,hg1,hfz⟩:=hg
    obtain ⟨cs',a1,a2,a3,a4⟩:=eV g e fz us (off + o) w cs hg1
    refine .inr ⟨g,off,m,c,cs',rfl,?_,hb,⟨fz,a1,by rw [a2]; exact hfz⟩,hmc,hc,by rw [a2]; exact hsz,fun j u hu=>?_⟩
    · unfold lK; simp only [List.length_append,List.length_take,List.length_drop]; omega
    · rw [sR _ _ _ _ hl] at hu
      split at hu
      · rename_i hj
        have:=a4 (by omega) _ u hu
        rwa [show off + o + (j - o)=off + j by omega] at this
      · rename_i hj
        rw [a3 _ (by omega)]; exact hcs j u hu
  · rw [hg.cell,Array.getElem?_eq_getElem (by omega)]; rfl
theorem aD.mid {α:Type} {R:aR α} {T:Nat→Prop} {w:World} {cl us:List Value} {xs ys:List α} (h:aD R T w cl xs) (k:aD R T w us ys) {lo:Nat} (hl:lo + ys.length≤xs.length):aD R T w (lK cl (lo * R.size) us) (xs.take lo ++ ys ++ xs.drop (lo + ys.length)):=by
  have h1:=h.cut (Nat.zero_le lo) (by omega)
  have h2:=h.cut hl (Nat.le_refl _)
  rw [Nat.zero_mul,List.drop_zero,List.drop_zero] at h1
  rw [List.take_length,List.take_of_length_le (by rw [h.1]; exact Nat.le_refl _)] at h2
  have h3:=(h1.append k).append h2
  unfold lK
  rw [k.1,← Nat.add_mul]
  exact h3
theorem bW.dn (f:bW) {T:Nat→Prop} {w:World} (h:f.p T w):f.p (dT T []) w:=f.keep h (Kt.refl _ _) fun k hk=>by
  rcases hk with hk | ⟨r,hr,_⟩
  · exact .inl hk
  · cases hr
end
section
variable {κ ν:Type} {P:Program} {W:World} {M T E:Nat→Prop} {n:Nat} {G G':List (Nat×Value)} {D D':List cx} {F F':List bW} {a:Act} {w w':World} {K:Act→World→Prop}
variable {kt et:TypeId} {RK:aR κ} {ak:Bool} {RV:aR ν} {av:Bool} {q:κ→κ→Bool} {b clock:Nat} {es:Array MapEntry} {xs:List (κ×ν)}
theorem FW {t t2 ty:TypeId} {X Y:Operand} {pos:String} {af:Array Edge} {g:Option (Nat×Bool)} (hS:St W M T n G D F a w) (ht:zS P t=some (kt,et)) (hK:s5 P kt RK ak q) (i:Nat) (hi:D[i]? = some (.obj b (.map es clock))) (j:Nat) (hj:F[j]? = some (mB RK ak RV av es xs))
    {c:List Value} {key:κ} (hc:RK.rel (dT T D) w c key) (hX:ev G X=some (.map (some b))) (hY:ev G Y=some (aW ak c))
    (k:∀ es' ck' w',Kt (fun j=>j=b) w w'→St W M T n G (D.set i (.obj b (.map es' ck'))) (mB RK ak RV av es' (oZ q key xs) :: F) a w'→K a w'):oJ P ⟨none,.call { callee:=.builtin .delete,args:=#[X,Y],argTypes:=#[t,t2] },ty,pos,af,g⟩ a w K:=by
  have hr:w.heap[b]? = some (.map es clock):=hS.own _ (List.mem_of_getElem? hi)
  have hm:=hS.mapOk j hj
  obtain ⟨hl,hkeys⟩:=qX hm
  have hf:=oe hK hc w hl hkeys
  have hch:=hK.check es.isEmpty _ _ w _ _ hc
  have fin:∀ es' ck',(Builtin.delete_ #[t,t2] ty #[.map (some b),aW ak c]).run P w = .ok (.tuple #[]) { w with heap:=w.heap.setIfInBounds b (.map es' ck') }→bw RK ak RV av (dT T D) w es' (oZ q key xs)→oJ P ⟨none,.call { callee:=.builtin .delete,args:=#[X,Y],argTypes:=#[t,t2] },ty,pos,af,g⟩ a w K:=fun es' ck' hrun hok=>by
    refine ss (w':={ w with heap:=w.heap.setIfInBounds b (.map es' ck') }) (v:=.tuple #[]) (by simp [execOp,resolve,invoke,builtin,hS.ev hX,hS.ev hY,hrun]) (k es' ck' _ ((mR hr).mono fun j hj=>(Option.some.inj hj).symm) ?_)
    exact (hS.fact (mB RK ak RV av es' _) hok).turn hi (mR hr) (r':=.obj b (.map es' ck')) (nk hr).1 fun j hj=>.inl hj
  cases hp:pR q key xs with
  | none =>
    obtain ⟨_,_,g3⟩:=n4 hp
    rw [hp] at hf
    refine fin es clock ?_ (by rw [g3]; exact hm)
    simp [Builtin.delete_,run_underlying (jV ht),rn hr,hch,hf,t8,xv _ hr]
  | some p =>
    obtain ⟨x0,hx0,hq0,_,_,g3⟩:=n5 hp
    have hpi:p < es.size:=by rw [hm.1]; exact (List.getElem?_eq_some_iff.1 hx0).1
    have he0:es[p]? = some es[p]:=Array.getElem?_eq_getElem hpi
    rw [hp] at hf
    have hat:t8 es.toList 0 (some p)=some (p,es[p].val):=by simp [t8,he0]
    rw [hat] at hf
    refine fin (es.eraseIdxIfInBounds p) clock ?_ ⟨?_,fun z e x he hx=>?_⟩
    · simp [Builtin.delete_,run_underlying (jV ht),rn hr,hch,hf,xv _ hr]
    · rw [g3]
      have h1:(es.eraseIdxIfInBounds p).size=es.size - 1:=by simp [Array.eraseIdxIfInBounds,hpi]
      rw [h1,List.length_eraseIdx,if_pos (by rw [← hm.1]; exact hpi),hm.1]
    · rw [g3,List.getElem?_eraseIdx] at hx
      have he2:(es.eraseIdxIfInBounds p)[z]? = if z < p then es[z]? else es[z + 1]?:=by
        simp only [Array.eraseIdxIfInBounds,hpi,dif_pos]
        rw [Array.getElem?_eraseIdx]
      rw [he2] at he
      split at hx
      · rename_i hz
        rw [if_pos hz] at he
        exact hm.2 z e x he hx
      · rename_i hz
        rw [if_neg hz] at he
        exact hm.2 (z + 1) e x he hx
end
end
section
open Go.RowKit
section
variable {P:Program} {W:World} {M T E:Nat→Prop} {n:Nat} {G G':List (Nat×Value)} {D D' D0 Dr rs:List cx} {F F':List bW} {a:Act} {w w':World} {K:Act→World→Prop}
end
end
section
open Go.RowKit
structure I6 (α ν β:Type) where
  R:aR α
  RN:aR ν
  RI:aR β
  et:TypeId
  get:α→List β
  put:List β→α→α
  nf:Value→α→ν
  size:RN.size=R.size
  pos:0 < RI.size
  close:∀ {T:Nat→Prop} {w:World} {cs:List Value} {v:Value} {x:α},RN.rel T w cs (nf v x)→aB RI T w v (get x)→R.rel T w cs x
  gp:∀ l x,get (put l x)=l
  np:∀ v l x,nf v (put l x)=nf v x
def Hk (e:TypeId) (sz:Nat):qi:=⟨.slice none 0 0,e,sz,[]⟩
section
variable {α ν β:Type} (N:I6 α ν β)
def I6.no:qi:=Hk N.et N.RI.size
variable {N}
variable {P:Program} {W:World} {M T E:Nat→Prop} {n:Nat} {G G':List (Nat×Value)} {D D' D0 Dr rs:List cx} {F F':List bW} {a:Act} {w w':World} {K:Act→World→Prop}
end
end
section
open Go.RowKit
section
variable {P:Program} {W:World} {M T E:Nat→Prop} {n:Nat} {G G':List (Nat×Value)} {D D' D0 Dr rs:List cx} {F F':List bW} {a:Act} {w w':World} {K:Act→World→Prop}
end
end
section
open Go.RowKit
def Gs {κ ν:Type} (RK:aR κ) (ak:Bool) (RV:aR ν) (av:Bool) (T:Nat→Prop) (W w:World) (rs:List cx) (b:Nat) (es:Array MapEntry) (ck:Nat) (xs:List (κ×ν)):Prop :=
  w.heap[b]? = some (.map es ck)∧W.heap.size≤b∧bw RK ak RV av (dT T rs) w es xs
theorem zU {W:World} {b:Nat} {o:Obj} (h:W.heap.size≤b):∀ k,cx.dom (.obj b o) k→W.heap.size≤k:=fun k hk=>by
  simp only [cx.dom,Option.some.injEq] at hk; omega
section
variable {κ ν:Type} {P:Program} {W:World} {M T E:Nat→Prop} {n:Nat} {G:List (Nat×Value)} {D rs:List cx} {F:List bW} {a:Act} {w:World}
theorem St.retMap {RK:aR κ} {ak:Bool} {RV:aR ν} {av:Bool} {b ck:Nat} {es:Array MapEntry} {xs:List (κ×ν)} (h:St W No T n G D F a w) (hi:DW D rs) (i:Nat) (hd:D[i]? = some (.obj b (.map es ck))) (j:Nat) (hj:F[j]? = some (mB RK ak RV av es xs)):Gs RK ak RV av T W w rs b es ck xs:=by
  have hm:=List.mem_of_getElem? hd
  exact ⟨h.own _ hm,(h.free _ hm b rfl).2.resolve_left fun h=>h,(h.get j hj:bw RK ak RV av (dT T D) w es xs).keep (Kt.refl _ _) fun k hk=>.inl (hi.sub k hk)⟩
end
end
section
open Go.RowKit
def HR {α:Type} (R:aR α):aR (List Value ⊕ α) where
  size:=R.size
  rel:=fun T w cs y=>match y with
    | .inl c=>cs=c∧c.length=R.size∧∀ u ∈ c,u.oneCell'=true
    | .inr x=>R.rel T w cs x
  len:=fun {T w cs y} h=>by
    cases y with
    | inl c=>obtain ⟨rfl,h,_⟩:=h; exact h
    | inr x=>exact R.len h
  one:=fun {T w cs y} h=>by
    cases y with
    | inl c=>obtain ⟨rfl,_,h⟩:=h; exact h
    | inr x=>exact R.one h
  keep:=fun {T T' w w' cs y} h k n=>by
    cases y with
    | inl c=>exact h
    | inr x=>exact R.keep h k n
def eI {α:Type} (xs:List α) (i:Int) (cs:List Value):List (List Value ⊕ α):=(xs.map Sum.inr).set i.toNat (Sum.inl cs)
theorem sm {α:Type} {xs:List α} {i:Int} {cs:List Value}:(eI xs i cs).length=xs.length:=by unfold eI; simp
section
variable {α:Type} {R:aR α} {P:Program} {W:World} {M T E:Nat→Prop} {n:Nat} {G:List (Nat×Value)} {D rs:List cx} {F:List bW} {a:Act} {w:World} {K:Act→World→Prop} {xs:List α} {i:Int} {x:α} {cs cl:List Value}
theorem qT (h:bm xs i=some x) (cs:List Value):bm (eI xs i cs) i=some (Sum.inl cs):=by
  obtain ⟨q1,q2,q3⟩:=fy h
  unfold bm eI
  have:=(List.getElem?_eq_some_iff.1 q3).1
  rw [if_pos q1,List.getElem?_set,if_pos rfl,if_pos (by simpa using this)]
theorem BC (cs cs':List Value):(eI xs i cs).set i.toNat (Sum.inl cs')=eI xs i cs':=by
  unfold eI; rw [List.set_set]
theorem Cg {T:Nat→Prop} (h:aD R T w cl xs):aD (HR R) T w cl (xs.map Sum.inr):=by
  refine ⟨by rw [List.length_map]; exact h.1,fun k y hy=>?_⟩
  rw [List.getElem?_map] at hy
  cases hx:xs[k]? with
  | none=>rw [hx] at hy; cases hy
  | some x =>
    rw [hx] at hy
    obtain rfl:=Option.some.inj hy
    exact h.2 k x hx
theorem St.openH (hS:St W M T n G D F a w) (j:Nat) (hj:F[j]? = some (am R cl xs)):St W M T n G D (am (HR R) cl (xs.map Sum.inr) :: F) a w:=hS.fact _ (Cg (hS.get j hj))
theorem dv {v:Value} {b o p:Nat} (hS:St W M T n G D F a w) (j:Nat) (hj:F[j]? = some (am (HR R) cl (eI xs i cs))) (ho:CL v b o R.size i p) (hg:bm xs i=some x):∀ k u,cs[k]? = some u→cl[p + k]? = some u:=by
  obtain ⟨off,m,c,rfl,rfl,rfl⟩:=ho
  obtain ⟨q1,q2,q3⟩:=fy (qT hg cs)
  obtain ⟨c2,⟨rfl,_,_⟩,h2⟩:=(hS.get j hj:aD (HR R) (dT T D) w cl (eI xs i cs)).2 _ _ q3
  exact h2
theorem x5 {T:Nat→Prop} (hS:aD (HR R) T w cl (eI xs i cs)) (hg:bm xs i=some x):(HR R).rel T w cs (Sum.inl cs):=by
  obtain ⟨q1,q2,q3⟩:=fy (qT hg cs)
  obtain ⟨c2,⟨rfl,h1,h2⟩,_⟩:=hS.2 _ _ q3
  exact ⟨rfl,h1,h2⟩
theorem St.closeH {x':α} (hS:St W M T n G D F a w) (j:Nat) (hj:F[j]? = some (am (HR R) cl (eI xs i cs))) (hr:R.rel (dT T D) w cs x'):St W M T n G D (am R cl (xs.set i.toNat x') :: F) a w:=by
  have h:aD (HR R) (dT T D) w cl (eI xs i cs):=hS.get j hj
  refine hS.fact _ ⟨by rw [List.length_set,← sm (xs:=xs) (i:=i) (cs:=cs)]; exact h.1,fun k y hy=>?_⟩
  rw [List.getElem?_set] at hy
  by_cases hk:i.toNat=k
  · subst hk
    rw [if_pos rfl] at hy
    split at hy
    · rename_i hl
      obtain rfl:=Option.some.inj hy
      obtain ⟨c2,⟨rfl,_,_⟩,h2⟩:=h.2 i.toNat (Sum.inl cs) (by unfold eI; rw [List.getElem?_set,if_pos rfl,if_pos (by simpa using hl)])
      exact ⟨_,hr,h2⟩
    · cases hy
  · rw [if_neg hk] at hy
    exact h.2 k (Sum.inr y) (by unfold eI; rw [List.getElem?_set,if_neg hk,List.getElem?_map,hy]; rfl)
theorem BF {t ty e:TypeId} {X Y:Operand} {pos:String} {af:Array Edge} {g:Option (Nat×Bool)} {ag:Bool} {z b o k p:Nat} {v u:Value} {us:List Value} (hS:St W M T n G D F a w) (hX:ev G X=some (.pointer (some ⟨b,o + k,none⟩))) (hY:ev G Y=some u) (hu:u.cells.toList=us) (ht:mT P t=some (ag,z)) (q:Nat) (hq:D[q]? = some (.own v e R.size cl)) (j:Nat) (hj:F[j]? = some (am (HR R) cl (eI xs i cs))) (ho:CL v b o R.size i p) (hg:bm xs i=some x)
    (hz:us.length=z) (hl:Nat.ble (k + z) cs.length=true) (hone:∀ y ∈ lK cs k us,y.oneCell'=true)
    (K':∀ cl' w',Kt (fun j=>v.ownBlock=some j) w w'→St W M T n G (D.set q (.own v e R.size cl')) (am (HR R) cl' (eI xs i (lK cs k us)) :: F) a w'→K a w'):oJ P ⟨none,.store t X Y,ty,pos,af,g⟩ a w K:=by
  have hr:(HR R).rel (dT T D) w cs (Sum.inl cs):=x5 (hS.get j hj) hg
  have hlen:(lK cs k us).length=R.size:=by
    have h1:=hr.2.1
    have:=Nat.le_of_ble_eq_true hl
    unfold lK
    simp only [List.length_append,List.length_take,List.length_drop]
    omega
  exact pu (R:=HR R) (xs:=eI xs i cs) (x:=Sum.inl cs) (x':=Sum.inl (lK cs k us)) (k:=k) (cs:=cs) (us:=us) hS hX hY hu ht q hq j hj ho (dv hS j hj ho hg) (qT hg cs) hr hz hl ⟨rfl,hlen,hone⟩ fun cl' w' hk hS'=>K' cl' w' hk (by rw [BC] at hS'; exact hS')
end
end
section
open Go.RowKit
structure Jp {κ β:Type} (RK:aR κ) (ak:Bool) (RI:aR β) (e:TypeId) (T:Nat→Prop) (w:World) (es:Array MapEntry) (ck:Nat) (inn:List qi) (xs:List (κ×List β)):Prop where
  n1:es.size=xs.length
  n2:inn.length=xs.length
  ky:∀ (i:Nat) (m:MapEntry) (x:κ×List β),es[i]? = some m→xs[i]? = some x→∃ c,RK.rel T w c x.1∧m.key=aW ak c
  val:∀ (i:Nat) (m:MapEntry) (o:qi),es[i]? = some m→inn[i]? = some o→m.val=o.v
  row:∀ (i:Nat) (o:qi) (x:κ×List β),inn[i]? = some o→xs[i]? = some x→o.e=e∧o.sz=RI.size∧aD RI T w o.cl x.2
  lt:∀ (i:Nat) (m:MapEntry),es[i]? = some m→m.born < ck
  inj:∀ (i j:Nat) (m m':MapEntry),es[i]? = some m→es[j]? = some m'→m.born=m'.born→i=j
structure Jn {κ β:Type} (RK:aR κ) (ak:Bool) (RI:aR β) (e:TypeId) (q:κ→κ→Bool) (T:Nat→Prop) (w:World) (es:Array MapEntry) (ck:Nat) (inn:List qi) (xs0:List (κ×List β)) (key:κ) (s:Int) (p:Nat):Prop where
  n1:es.size=(cX q key [] xs0).length
  n2:inn.length=(cX q key [] xs0).length
  ky:∀ (i:Nat) (m:MapEntry) (x:κ×List β),es[i]? = some m→(cX q key [] xs0)[i]? = some x→∃ c,RK.rel T w c x.1∧m.key=aW ak c
  val:∀ (i:Nat) (m:MapEntry) (o:qi),i ≠ p→es[i]? = some m→inn[i]? = some o→m.val=o.v
  row:∀ (i:Nat) (o:qi) (x:κ×List β),inn[i]? = some o→(cX q key [] xs0)[i]? = some x→o.e=e∧o.sz=RI.size∧aD RI T w o.cl x.2
  lt:∀ (i:Nat) (m:MapEntry),es[i]? = some m→m.born < ck
  inj:∀ (i j:Nat) (m m':MapEntry),es[i]? = some m→es[j]? = some m'→m.born=m'.born→i=j
  at_:∃ m,es[p]? = some m∧s=(m.born:Int)
  no:inn[p]? = some (Hk e RI.size)
  it:(cX q key [] xs0)[p]? = some (key,[])
  set:∀ ys,(cX q key [] xs0).set p (key,ys)=cX q key ys xs0
section
variable {κ β:Type} {P:Program} {W:World} {M T E:Nat→Prop} {n:Nat} {G G':List (Nat×Value)} {D D':List cx} {F F':List bW} {a:Act} {w w':World} {K:Act→World→Prop}
variable {kt et:TypeId} {RK:aR κ} {ak:Bool} {RI:aR β} {e:TypeId} {q:κ→κ→Bool} {b ck:Nat} {es:Array MapEntry} {inn:List qi} {xs:List (κ×List β)}
end
end
section
open Go.RowKit
def Gt {κ ν:Type} (RK:aR κ) (ak:Bool) (RV:aR ν) (av:Bool) (T:Nat→Prop) (w:World) (v:Value) (xs:List (κ×ν)):Prop :=
  ∃ b es ck,v = .map (some b)∧¬ T b∧w.heap[b]? = some (.map es ck)∧bw RK ak RV av T w es xs
section
variable {κ ν:Type} {RK:aR κ} {ak:Bool} {RV:aR ν} {av:Bool}
theorem Gt.keep {T T':Nat→Prop} {w w':World} {v:Value} {xs:List (κ×ν)} (h:Gt RK ak RV av T w v xs) (k:Kt T w w') (hn:Nw T T' w):Gt RK ak RV av T' w' v xs:=by
  obtain ⟨b,es,ck,h1,h2,h3,h4⟩:=h
  have hl:=(Array.getElem?_eq_some_iff.1 h3).1
  exact ⟨b,es,ck,h1,fun ht=>by rcases hn b ht with h | h; exact h2 h; omega,(k.block b hl h2).trans h3,h4.keep k hn⟩
theorem Gt.one {T:Nat→Prop} {w:World} {v:Value} {xs:List (κ×ν)} (h:Gt RK ak RV av T w v xs):v.oneCell'=true:=by obtain ⟨b,es,ck,rfl,_⟩:=h; rfl
end
section
variable {κ ν:Type} {P:Program} {W:World} {M T E:Nat→Prop} {n:Nat} {G G':List (Nat×Value)} {D D':List cx} {F F':List bW} {a:Act} {w w':World} {K:Act→World→Prop}
variable {kt et:TypeId} {RK:aR κ} {ak:Bool} {RV:aR ν} {av:Bool} {q:κ→κ→Bool} {b clock:Nat} {es:Array MapEntry} {xs:List (κ×ν)}
end
end
section
open Go.RowKit
def Wt (ops:Array Oper) (G:List (Nat×Value)) (o:Oper):Prop:=o.guard=none∨∃ (j t:Nat) (want c:Bool),o.guard=some (j,want)∧(ops[j]?).bind (·.dst)=some t∧lk G t=some (.bool c)∧c=want
section
variable {P:Program} {ops:Array Oper} {Q:Exit→Act→World→Prop}
theorem Wt.ok {mods:List (Nat×Tn)} {W:World} {M T:Nat→Prop} {n:Nat} {G:List (Nat×Value)} {D:List cx} {F:List bW} {a:Act} {w:World} {o:Oper} (hS:St W M T n G D F a w) (h:Wt ops G o):Region.wanted o (yielded ops a.tmps)=true:=by
  rcases h with h | ⟨j,t,want,c,h1,h2,h3,h4⟩
  · simp [Region.wanted,h]
  · rw [mU hS h1 h2 h3,h4]; simp
end
end
section
open Go.RowKit
theorem Cm {α:Type} {xs:List α} {i:Int} {x:α} (h:bm xs i=some x):xs.set i.toNat x=xs:=by
  obtain ⟨_,_,h3⟩:=fy h
  obtain ⟨h4,h5⟩:=List.getElem?_eq_some_iff.1 h3
  rw [← h5]; exact List.set_getElem_self h4
end
section
open Go.RowKit
structure gD (es:Array MapEntry) (ck:Nat):Prop where
  lt:∀ (i:Nat) (m:MapEntry),es[i]? = some m→m.born < ck
  inj:∀ (i j:Nat) (m m':MapEntry),es[i]? = some m→es[j]? = some m'→m.born=m'.born→i=j
theorem gD.nil:gD #[] 0:=⟨fun i m h=>by simp at h,fun i j m m' h=>by simp at h⟩
theorem gD.push {es:Array MapEntry} {ck:Nat} (h:gD es ck) (k v:Value):gD (es.push { key:=k,val:=v,born:=ck }) (ck + 1):=by
  have old:∀ (z:Nat) (m:MapEntry),(es.push { key:=k,val:=v,born:=ck })[z]? = some m→(z < es.size∧es[z]? = some m)∨(z=es.size∧m={ key:=k,val:=v,born:=ck }):=by
    intro z m hz
    rw [Array.getElem?_push] at hz
    split at hz
    · rename_i h; injection hz with hz; exact .inr ⟨h,hz.symm⟩
    · exact .inl ⟨(Array.getElem?_eq_some_iff.1 hz).1,hz⟩
  refine ⟨fun z m hz=>?_,fun z z' m m' hz hz' hb=>?_⟩
  · rcases old z m hz with ⟨_,h2⟩ | ⟨rfl,rfl⟩
    · have:=h.lt z m h2; omega
    · exact Nat.lt_succ_self _
  · rcases old z m hz with ⟨_,h2⟩ | ⟨rfl,rfl⟩ <;> rcases old z' m' hz' with ⟨_,h2'⟩ | ⟨rfl,rfl⟩
    · exact h.inj z z' m m' h2 h2' hb
    · have:=h.lt z m h2; simp only at hb; omega
    · have:=h.lt z' m' h2'; simp only at hb; omega
    · rfl
theorem rS {es:Array MapEntry} {p:Nat} {f:MapEntry→MapEntry} {z:Nat} {m:MapEntry} (hz:(es.modify p f)[z]? = some m):∃ m0,es[z]? = some m0∧m=if p=z then f m0 else m0:=by
  rw [Array.getElem?_modify] at hz
  split at hz
  · rename_i h
    obtain ⟨m0,h1,rfl⟩:=Option.map_eq_some_iff.1 hz
    exact ⟨m0,h1,by rw [if_pos h]⟩
  · rename_i h; exact ⟨m,hz,by rw [if_neg h]⟩
theorem gD.modify {es:Array MapEntry} {ck:Nat} (h:gD es ck) (p:Nat) (f:MapEntry→MapEntry) (hf:∀ e,(f e).born=e.born):gD (es.modify p f) ck:=by
  have old:∀ (z:Nat) (m:MapEntry),(es.modify p f)[z]? = some m→∃ m0,es[z]? = some m0∧m.born=m0.born:=by
    intro z m hz
    obtain ⟨m0,h1,rfl⟩:=rS hz
    refine ⟨m0,h1,?_⟩
    split
    · exact hf m0
    · rfl
  refine ⟨fun z m hz=>?_,fun z z' m m' hz hz' hb=>?_⟩
  · obtain ⟨m0,h1,h2⟩:=old z m hz; rw [h2]; exact h.lt z m0 h1
  · obtain ⟨m0,h1,h2⟩:=old z m hz
    obtain ⟨m1,h3,h4⟩:=old z' m' hz'
    exact h.inj z z' m0 m1 h1 h3 (by rw [← h2,← h4]; exact hb)
theorem gD.nodup {es:Array MapEntry} {ck:Nat} (h:gD es ck):(es.toList.map (·.born)).Nodup:=by
  rw [List.nodup_iff_pairwise_ne,List.pairwise_iff_getElem]
  intro i j hi hj hij e
  simp only [List.getElem_map,Array.getElem_toList] at e
  simp only [List.length_map,Array.length_toList] at hi hj
  have:=h.inj i j _ _ (Array.getElem?_eq_getElem hi) (Array.getElem?_eq_getElem hj) e
  omega
theorem gD.find {es:Array MapEntry} {ck p:Nat} {m0:MapEntry} (h:gD es ck) (hm0:es[p]? = some m0):es.findIdx? (fun m=>(m.born:Int) == (m0.born:Int))=some p:=by
  rw [Array.findIdx?_eq_some_iff_getElem]
  obtain ⟨h1,h2⟩:=Array.getElem?_eq_some_iff.1 hm0
  refine ⟨h1,by simp [h2],fun z hz=>?_⟩
  have hzl:z < es.size:=by omega
  intro h3
  have h3:(es[z].born:Int)=(m0.born:Int):=by simpa using h3
  have:=h.inj z p _ _ (Array.getElem?_eq_getElem hzl) hm0 (by omega)
  omega
def tC (es:Array MapEntry) (ck:Nat):bW:=⟨fun _ _=>gD es ck,fun h _ _=>h⟩
def Gp {κ ν:Type} (RK:aR κ) (ak:Bool) (RV:aR ν) (av:Bool) (q:κ→κ→Bool) (es:Array MapEntry) (ck:Nat) (xs:List (κ×ν)) (key:κ) (s:Int):bW :=
  ⟨fun T w=>∃ (u:ν) (p:Nat) (m:MapEntry),bw RK ak RV av T w es (cX q key u xs)∧gD es ck∧es[p]? = some m∧s=m.born∧∀ y,(cX q key u xs).set p (key,y)=cX q key y xs,
   fun h k n=>by obtain ⟨u,p,m,h1,h2⟩:=h; exact ⟨u,p,m,h1.keep k n,h2⟩⟩
section
variable {κ ν:Type} {P:Program} {W:World} {M T E:Nat→Prop} {n:Nat} {G G':List (Nat×Value)} {D D':List cx} {F F':List bW} {a:Act} {w w':World} {K:Act→World→Prop}
variable {kt et:TypeId} {RK:aR κ} {ak:Bool} {RV:aR ν} {av:Bool} {q:κ→κ→Bool} {b clock:Nat} {es:Array MapEntry} {xs:List (κ×ν)}
theorem AJ {t:TypeId} (ht:zS P t=some (kt,et)) (hK:s5 P kt RK ak q) {T:Nat→Prop} {w w0:World} (hr:w.heap[b]? = some (.map es clock)) (hm:bw RK ak RV av T w0 es xs) (hB:gD es clock) {c cv:List Value} {key:κ} {val:ν} (hc:RK.rel T w0 c key) (hv:RV.rel T w0 cv val) :
    ∃ es' ck',(Instr.mapUpdate t (.map (some b)) (aW ak c) (aW av cv)).run P w = .ok () { w with heap:=w.heap.setIfInBounds b (.map es' ck') }∧bw RK ak RV av T w0 es' (cX q key val xs)∧gD es' ck':=by
  obtain ⟨hl,hkeys⟩:=qX hm
  have hf:=oe hK hc w hl hkeys
  have hch:=hK.check false _ _ w _ _ hc
  cases hp:pR q key xs with
  | none =>
    obtain ⟨_,g2,_⟩:=n4 hp
    rw [hp] at hf
    refine ⟨es.push { key:=aW ak c,val:=aW av cv,born:=clock },clock + 1,?_,⟨by rw [g2]; simp [hm.1],fun z e x he hx=>?_⟩,hB.push _ _⟩
    · simp [Instr.mapUpdate,run_underlying (jV ht),rn hr,hch,hf,t8,xv _ hr]
    · rw [g2] at hx
      by_cases hz:z < xs.length
      · rw [List.getElem?_append_left hz] at hx
        rw [Array.getElem?_push_lt (by rw [hm.1]; exact hz)] at he
        exact hm.2 z e x (by rw [← he]; exact (Array.getElem?_eq_getElem _)) hx
      · rw [List.getElem?_append_right (by omega)] at hx
        obtain rfl:z=xs.length:=by
          rcases Nat.lt_or_ge xs.length z with h | h
          · rw [List.getElem?_eq_none (by simp; omega)] at hx; cases hx
          · omega
        simp at hx
        subst hx
        rw [← hm.1,Array.getElem?_push_size] at he
        simp only [Option.some.injEq] at he
        subst he
        exact ⟨⟨c,hc,rfl⟩,cv,hv,rfl⟩
  | some p =>
    obtain ⟨x0,hx0,hq0,_,g2,_⟩:=n5 hp
    have hpi:p < es.size:=by rw [hm.1]; exact (List.getElem?_eq_some_iff.1 hx0).1
    have he0:es[p]? = some es[p]:=Array.getElem?_eq_getElem hpi
    obtain ⟨⟨d0,hd0,hk0⟩,_⟩:=hm.2 p _ x0 he0 hx0
    have hbits:=hK.bits _ _ _ _ _ _ _ _ hc hd0 hq0
    rw [hp] at hf
    refine ⟨es.modify p fun e=>{ e with key:=aW ak c,val:=aW av cv },clock,?_,⟨by rw [g2]; simp [hm.1],fun z e x he hx=>?_⟩,hB.modify p _ fun _=>rfl⟩
    · have hat:t8 es.toList 0 (some p)=some (p,es[p].val):=by simp [t8,he0]
      rw [hat] at hf
      have hkt:(Instr.keyThatStays (((es[p]?).map (·.key)).getD (aW ak c)) (aW ak c)).run P w = .ok (aW ak c) w:=by
        rw [he0]
        simp only [Option.map_some,Option.getD_some,hk0,Instr.keyThatStays,hbits,if_true,Sem.run_pure]
      simp only [Instr.mapUpdate,Sem.run_bind,run_underlying (jV ht),Result.andThen_ok,rn hr,hch,hf,hkt,xv _ hr]
    · rw [g2] at hx
      by_cases hz:p=z
      · subst hz
        rw [List.getElem?_set_self (by rw [← hm.1]; exact hpi)] at hx
        simp only [Option.some.injEq] at hx
        subst hx
        rw [Array.getElem?_modify,if_pos rfl,he0] at he
        simp only [Option.map_some,Option.some.injEq] at he
        subst he
        exact ⟨⟨c,hc,rfl⟩,cv,hv,rfl⟩
      · rw [List.getElem?_set_ne hz] at hx
        rw [Array.getElem?_modify,if_neg hz] at he
        exact hm.2 z e x he hx
theorem uV {d:Nat} {t ty:TypeId} {pos:String} {af:Array Edge} {g:Option (Nat×Bool)} (RK:aR κ) (ak:Bool) (RV:aR ν) (av:Bool) (hS:St W M T n G D F a w) (hn:Nat.blt d n=true)
    (k:∀ b,w.heap.size≤b→∀ a w',Kt No w w'→St W M T n ((d,.map (some b)) :: G) (.obj b (.map #[] 0) :: D) (tC #[] 0 :: mB RK ak RV av #[] [] :: F) a w'→K a w'):oJ P ⟨some d,.makeMap t none,ty,pos,af,g⟩ a w K :=
  oN RK ak RV av hS hn fun b hb a w' hk hS=>k b hb a w' hk (hS.fact _ gD.nil)
theorem xb {t ty:TypeId} {X Y Z:Operand} {pos:String} {af:Array Edge} {g:Option (Nat×Bool)} (hS:St W M T n G D F a w) (ht:zS P t=some (kt,et)) (hK:s5 P kt RK ak q) (i:Nat) (hi:D[i]? = some (.obj b (.map es clock))) (j:Nat) (hj:F[j]? = some (mB RK ak RV av es xs)) (jb:Nat) (hb:F[jb]? = some (tC es clock))
    {c cv:List Value} {key:κ} {val:ν} (hc:RK.rel (dT T D) w c key) (hv:RV.rel (dT T D) w cv val) (hX:ev G X=some (.map (some b))) (hY:ev G Y=some (aW ak c)) (hZ:ev G Z=some (aW av cv))
    (k:∀ es' ck' w',Kt (fun j=>j=b) w w'→St W M T n G (D.set i (.obj b (.map es' ck'))) (tC es' ck' :: mB RK ak RV av es' (cX q key val xs) :: F) a w'→K a w'):oJ P ⟨none,.mapUpdate t X Y Z,ty,pos,af,g⟩ a w K:=by
  have hr:w.heap[b]? = some (.map es clock):=hS.own _ (List.mem_of_getElem? hi)
  obtain ⟨es',ck',hrun,hok,hB⟩:=AJ ht hK hr (hS.mapOk j hj) (hS.get jb hb) hc hv
  refine ya (w':={ w with heap:=w.heap.setIfInBounds b (.map es' ck') }) (by simp [execOp,hS.ev hX,hS.ev hY,hS.ev hZ,hrun]) (k es' ck' _ ((mR hr).mono fun j hj=>(Option.some.inj hj).symm) ?_)
  exact ((hS.fact (mB RK ak RV av es' _) hok).fact (tC es' ck') hB).turn hi (mR hr) (r':=.obj b (.map es' ck')) (nk hr).1 fun j hj=>.inl hj
theorem uU {t ty:TypeId} {X Y Z:Operand} {pos:String} {af:Array Edge} {g:Option (Nat×Bool)} (hS:St W M T n G D F a w) (ht:zS P t=some (kt,et)) (hK:s5 P kt RK ak q) (i:Nat) (hi:D[i]? = some (.obj b (.map es clock))) (j:Nat) (hj:F[j]? = some (mB RK ak RV av es xs)) (jb:Nat) (hb:F[jb]? = some (tC es clock))
    {c cv:List Value} {key:κ} {val:ν} (hc:RK.rel (dT T D) w c key) (hv:RV.rel (dT T D) w cv val) (hX:ev G X=some (.map (some b))) (hY:ev G Y=some (aW ak c)) (hZ:ev G Z=some (aW av cv))
    (k:∀ es' ck' w',Kt (fun j=>j=b) w w'→St W M T n G (D.set i (.obj b (.map es' ck'))) (tC es' ck' :: mB RK ak RV av es' (cX q key val xs) :: F) a w'→K a w'):oJ P ⟨none,.insert t X Y Z,ty,pos,af,g⟩ a w K :=
  xb (ty:=ty) (pos:=pos) (af:=af) (g:=g) hS ht hK i hi j hj jb hb hc hv hX hY hZ k
theorem AE {d:Nat} {t ty:TypeId} {X Y:Operand} {pos:String} {af:Array Edge} {g:Option (Nat×Bool)} (hS:St W M T n G D F a w) (hd:Nat.blt d n=true) (ht:zS P t=some (kt,et)) (hK:s5 P kt RK ak q) (i:Nat) (hi:D[i]? = some (.obj b (.map es clock))) (j:Nat) (hj:F[j]? = some (mB RK ak RV av es xs)) (jb:Nat) (hb:F[jb]? = some (tC es clock))
    {c:List Value} {key:κ} (hc:RK.rel (dT T D) w c key) {z:Value} {zc:List Value} {z0:ν} (hz:ED P et=some z) (hzc:z=aW av zc) (hz0:RV.rel (dT T D) w zc z0) (hX:ev G X=some (.map (some b))) (hY:ev G Y=some (aW ak c))
    (k:∀ v es' ck' (s:Int) a w',Kt (fun j=>j=b) w w'→St W M T n ((d,.tuple #[v,.int .i64 s]) :: G) (D.set i (.obj b (.map es' ck'))) (Gp RK ak RV av q es' ck' xs key s :: F) a w'→K a w'):oJ P ⟨some d,.mapEntry t X Y,ty,pos,af,g⟩ a w K:=by
  have hr:w.heap[b]? = some (.map es clock):=hS.own _ (List.mem_of_getElem? hi)
  have hm:=hS.mapOk j hj
  have hB:gD es clock:=hS.get jb hb
  obtain ⟨hl,hkeys⟩:=qX hm
  have hf:=oe hK hc w hl hkeys
  have hch:=hK.check false _ _ w _ _ hc
  have hzr:=xB (P:=P) hz w
  cases hp:pR q key xs with
  | none =>
    obtain ⟨_,g2,_⟩:=n4 hp
    rw [hp] at hf
    have hrun:(execOp a.eval ⟨some d,.mapEntry t X Y,ty,pos,af,g⟩).run P w = .ok (.value (.tuple #[z,.int .i64 clock])) { w with heap:=w.heap.setIfInBounds b (.map (es.push { key:=aW ak c,val:=z,born:=clock }) (clock + 1)) }:=by
      simp [execOp,hS.ev hX,hS.ev hY,Instr.mapEntry,run_underlying (jV ht),rn hr,hch,hf,t8,xv _ hr,hzr,goInt]
    refine ss hrun (k z (es.push { key:=aW ak c,val:=z,born:=clock }) (clock + 1) clock _ _ ((mR hr).mono fun j hj=>(Option.some.inj hj).symm) ?_)
    refine St.put ?_ hd _
    refine (hS.fact (Gp RK ak RV av q _ (clock + 1) xs key clock) ?_).turn hi (mR hr) (r':=.obj b (.map (es.push { key:=aW ak c,val:=z,born:=clock }) (clock + 1))) (nk hr).1 fun j hj=>.inl hj
    refine ⟨z0,xs.length,{ key:=aW ak c,val:=z,born:=clock },⟨by rw [g2]; simp [hm.1],fun y e x he hx=>?_⟩,hB.push _ _,by rw [← hm.1,Array.getElem?_push_size],rfl,fun y=>by rw [g2,g2,List.set_append_right _ _ (Nat.le_refl _)]; simp⟩
    rw [g2] at hx
    by_cases hz:y < xs.length
    · rw [List.getElem?_append_left hz] at hx
      rw [Array.getElem?_push_lt (by rw [hm.1]; exact hz)] at he
      exact hm.2 y e x (by rw [← he]; exact (Array.getElem?_eq_getElem _)) hx
    · rw [List.getElem?_append_right (by omega)] at hx
      obtain rfl:y=xs.length:=by
        rcases Nat.lt_or_ge xs.length y with h | h
        · rw [List.getElem?_eq_none (by simp; omega)] at hx; cases hx
        · omega
      simp at hx
      subst hx
      rw [← hm.1,Array.getElem?_push_size] at he
      simp only [Option.some.injEq] at he
      subst he
      exact ⟨⟨c,hc,rfl⟩,zc,hz0,hzc⟩
  | some p =>
    obtain ⟨x0,hx0,hq0,_,g2,_⟩:=n5 hp
    have hpi:p < es.size:=by rw [hm.1]; exact (List.getElem?_eq_some_iff.1 hx0).1
    have hpx:p < xs.length:=(List.getElem?_eq_some_iff.1 hx0).1
    have he0:es[p]? = some es[p]:=Array.getElem?_eq_getElem hpi
    obtain ⟨⟨d0,hd0,hk0⟩,cv0,hcv0,hv0⟩:=hm.2 p _ x0 he0 hx0
    have hbits:=hK.bits _ _ _ _ _ _ _ _ hc hd0 hq0
    rw [hp] at hf
    have hat:t8 es.toList 0 (some p)=some (p,es[p].val):=by simp [t8,he0]
    rw [hat] at hf
    have hkt:(Instr.keyThatStays es[p].key (aW ak c)).run P w = .ok (aW ak c) w:=by
      simp only [hk0,Instr.keyThatStays,hbits,if_true,Sem.run_pure]
    have hrun:(execOp a.eval ⟨some d,.mapEntry t X Y,ty,pos,af,g⟩).run P w = .ok (.value (.tuple #[es[p].val,.int .i64 es[p].born])) { w with heap:=w.heap.setIfInBounds b (.map (es.modify p fun m=>{ m with key:=aW ak c }) clock) }:=by
      have h5:(Instr.mapEntry t (.map (some b)) (aW ak c)).run P w = .ok (.tuple #[es[p].val,.int .i64 es[p].born]) { w with heap:=w.heap.setIfInBounds b (.map (es.modify p fun m=>{ m with key:=aW ak c }) clock) }:=by
        simp only [Instr.mapEntry,Sem.run_bind,run_underlying (jV ht),Result.andThen_ok,rn hr,hch,hf,hkt,xv _ hr,Sem.run_pure,goInt,he0,Option.map_some,Option.getD_some]
      simp only [execOp,hS.ev hX,hS.ev hY,Sem.run_bind,h5,Result.andThen_ok,Sem.run_pure]
    refine ss hrun (k es[p].val (es.modify p fun m=>{ m with key:=aW ak c }) clock es[p].born _ _ ((mR hr).mono fun j hj=>(Option.some.inj hj).symm) ?_)
    refine St.put ?_ hd _
    refine (hS.fact (Gp RK ak RV av q _ clock xs key es[p].born) ?_).turn hi (mR hr) (r':=.obj b (.map (es.modify p fun m=>{ m with key:=aW ak c }) clock)) (nk hr).1 fun j hj=>.inl hj
    refine ⟨x0.2,p,{ es[p] with key:=aW ak c },⟨by rw [g2]; simp [hm.1],fun y e x he hx=>?_⟩,hB.modify p _ fun _=>rfl,by rw [Array.getElem?_modify,if_pos rfl,he0]; rfl,rfl,fun y=>by rw [g2,g2,List.set_set]⟩
    obtain ⟨m0,h1,h2⟩:=rS he
    rw [g2,List.getElem?_set] at hx
    by_cases hz:p=y
    · subst hz
      rw [if_pos rfl,if_pos hpx] at hx
      simp only [Option.some.injEq] at hx
      subst hx
      rw [if_pos rfl] at h2
      rw [he0] at h1
      obtain rfl:=Option.some.inj h1
      subst h2
      exact ⟨⟨c,hc,rfl⟩,cv0,hcv0,hv0⟩
    · rw [if_neg hz] at hx h2
      subst h2
      exact hm.2 y _ x h1 hx
theorem AF {t ty:TypeId} {X Y Z:Operand} {pos:String} {af:Array Edge} {g:Option (Nat×Bool)} {key:κ} {s:Int} {cv:List Value} {val:ν} (hS:St W M T n G D F a w) (i:Nat) (hi:D[i]? = some (.obj b (.map es clock))) (j:Nat) (hj:F[j]? = some (Gp RK ak RV av q es clock xs key s)) (hv:RV.rel (dT T D) w cv val) (hX:ev G X=some (.map (some b))) (hY:ev G Y=some (.int .i64 s)) (hZ:ev G Z=some (aW av cv))
    (k:∀ es' w',Kt (fun j=>j=b) w w'→St W M T n G (D.set i (.obj b (.map es' clock))) (tC es' clock :: mB RK ak RV av es' (cX q key val xs) :: F) a w'→K a w'):oJ P ⟨none,.entryStore t X Y Z,ty,pos,af,g⟩ a w K:=by
  have hr:w.heap[b]? = some (.map es clock):=hS.own _ (List.mem_of_getElem? hi)
  obtain ⟨u,p,m0,hm,hB,hm0,rfl,hset'⟩:(Gp RK ak RV av q es clock xs key s).p (dT T D) w:=hS.get j hj
  have hfi:=hB.find hm0
  have hrun:(execOp a.eval ⟨none,.entryStore t X Y Z,ty,pos,af,g⟩).run P w = .ok .skip { w with heap:=w.heap.setIfInBounds b (.map (es.modify p fun m=>{ m with val:=aW av cv }) clock) }:=by
    have h5:(Instr.entryStore t (.map (some b)) (.int .i64 (m0.born:Int)) (aW av cv)).run P w = .ok () { w with heap:=w.heap.setIfInBounds b (.map (es.modify p fun m=>{ m with val:=aW av cv }) clock) }:=by
      simp only [Instr.entryStore,Sem.run_bind,rn hr,Result.andThen_ok,asInt,asIntOf,Sem.run_pure,hfi,xv _ hr]
    simp only [execOp,hS.ev hX,hS.ev hY,hS.ev hZ,Sem.run_bind,h5,Result.andThen_ok,Sem.run_pure]
  refine ya hrun (k (es.modify p fun m=>{ m with val:=aW av cv }) _ ((mR hr).mono fun j hj=>(Option.some.inj hj).symm) ?_)
  refine ((hS.fact (mB RK ak RV av (es.modify p fun m=>{ m with val:=aW av cv }) (cX q key val xs)) ?_).fact (tC (es.modify p fun m=>{ m with val:=aW av cv }) clock) (hB.modify p _ fun _=>rfl)).turn hi (mR hr) (r':=.obj b (.map (es.modify p fun m=>{ m with val:=aW av cv }) clock)) (nk hr).1 fun j hj=>.inl hj
  rw [← hset' val]
  refine ⟨by simp [hm.1],fun y e x he hx=>?_⟩
  obtain ⟨m1,h1,h2⟩:=rS he
  rw [List.getElem?_set] at hx
  by_cases hz:p=y
  · subst hz
    have hpx:p < (cX q key u xs).length:=by rw [← hm.1]; exact (Array.getElem?_eq_some_iff.1 h1).1
    rw [if_pos rfl,if_pos hpx] at hx
    simp only [Option.some.injEq] at hx
    subst hx
    rw [if_pos rfl] at h2
    subst h2
    obtain ⟨⟨d,hd,hk⟩,_⟩:=hm.2 p m1 _ h1 (List.getElem?_eq_getElem hpx)
    have hkk:(cX q key u xs)[p].1=key:=by
      have h6:=hset' u
      have h7:=congrArg (fun l=>l[p]?) h6
      simp only [List.getElem?_set,if_true,hpx,List.getElem?_eq_getElem hpx,Option.some.injEq] at h7
      rw [← h7]
    exact ⟨⟨d,by rw [hkk] at hd; exact hd,hk⟩,cv,hv,rfl⟩
  · rw [if_neg hz] at hx h2
    subst h2
    exact hm.2 y _ x h1 hx
end
end
section
open Go.RowKit
def nj {κ ν S:Type} (B:S→κ→ν→Option S):S→List (κ×ν)→Option S
  | s,[]=>some s
  | s,x :: l=>(B s x.1 x.2).bind fun s'=>nj B s' l
open Classical in
noncomputable def tq {κ ν S:Type} (B:S→κ→ν→Option S) (xs:List (κ×ν)) (s0:S):Option S :=
  if h:∃ y,∀ p:List (κ×ν),p.Perm xs→nj B s0 p=some y then some h.choose else none
theorem zg {κ ν S:Type} {B:S→κ→ν→Option S} {xs:List (κ×ν)} {s0 y:S} (h:tq B xs s0=some y):∀ p:List (κ×ν),p.Perm xs→nj B s0 p=some y:=by
  unfold tq at h
  split at h
  · rename_i hx
    obtain rfl:=Option.some.inj h
    exact hx.choose_spec
  · cases h
theorem AP {κ ν S:Type} {B:S→κ→ν→Option S} {xs:List (κ×ν)} {s0 y:S} (h:∀ p:List (κ×ν),p.Perm xs→nj B s0 p=some y):tq B xs s0=some y:=by
  have hx:∃ y,∀ p:List (κ×ν),p.Perm xs→nj B s0 p=some y:=⟨y,h⟩
  unfold tq
  rw [dif_pos hx]
  have h1:=hx.choose_spec xs (List.Perm.refl _)
  rw [h xs (List.Perm.refl _)] at h1
  exact h1.symm
theorem AA {κ ν S:Type} {B:S→κ→ν→Option S} {rest rest':List (κ×ν)} {k:κ} {v:ν} {s y:S} (hp:rest.Perm ((k,v) :: rest')) (h:∀ p:List (κ×ν),p.Perm rest→nj B s p=some y) :
    ∃ s',B s k v=some s'∧∀ p:List (κ×ν),p.Perm rest'→nj B s' p=some y:=by
  have h1:=h ((k,v) :: rest') hp.symm
  rw [nj] at h1
  cases hb:B s k v with
  | none=>rw [hb] at h1; cases h1
  | some s' =>
    refine ⟨s',rfl,fun p hp'=>?_⟩
    have h2:=h ((k,v) :: p) ((List.Perm.cons (k,v) hp').trans hp.symm)
    rw [nj,hb] at h2
    exact h2
theorem DH {κ ν S:Type} {B:S→κ→ν→Option S} {rest:List (κ×ν)} {s y:S} (h0:rest=[]) (h:∀ p:List (κ×ν),p.Perm rest→nj B s p=some y):s=y:=by
  subst h0
  exact Option.some.inj (h [] (List.Perm.refl _))
theorem xu {α:Type} {rest rest':List α} {x:α} (hp:rest.Perm (x :: rest')):rest'.length < rest.length:=by
  rw [hp.length_eq]; exact Nat.lt_succ_self _
section
variable {P:Program} {a:Act} {w:World} {Q:Exit→Act→World→Prop}
theorem Gh {κ ν S:Type} {c:Code} (B:S→κ→ν→Option S) (I:S→List (κ×ν)→Act→World→Prop) {s0 y:S} {xs:List (κ×ν)} (hl:∀ p:List (κ×ν),p.Perm xs→nj B s0 p=some y) (h0:I s0 xs a w)
    (round:∀ s rest a w,I s rest a w→(∀ p:List (κ×ν),p.Perm rest→nj B s p=some y)→c.wp P (Exit.then (fun a' w'=>∃ s' rest',rest'.length < rest.length∧(∀ p:List (κ×ν),p.Perm rest'→nj B s' p=some y)∧I s' rest' a' w') Q) a w):(Code.loop c).wp P Q a w:=by
  intro b k cs
  have key:∀ N s rest a w,rest.length < N→(∀ p:List (κ×ν),p.Perm rest→nj B s p=some y)→I s rest a w→∃ e a' w',Q e a' w'∧Arrives P (lone (b.at a (.code c :: .inLoop c :: k)) cs w) b k cs e a' w':=by
    intro N
    induction N with
    | zero=>intro s rest a w h; omega
    | succ N ih =>
      intro s rest a w h hs hI
      obtain ⟨e,a₁,w₁,hq,harr⟩:=round s rest a w hI hs b (.inLoop c :: k) cs
      cases e with
      | normal =>
        obtain ⟨s',rest',h1,h2,h3⟩:=hq
        obtain ⟨e₂,a₂,w₂,hq₂,harr₂⟩:=ih s' rest' a₁ w₁ (by omega) h2 h3
        exact ⟨e₂,a₂,w₂,hq₂,.of_steps (Steps.trans harr (.one step_inLoop)) harr₂⟩
      | exit id=>exact ⟨_,a₁,w₁,hq,.pass (x:=.inLoop c) rfl (fun _ _=>.inl (by simp)) harr⟩
      | goto l=>exact ⟨_,a₁,w₁,hq,.pass (x:=.inLoop c) rfl (fun _ _=>.inl (by simp)) harr⟩
      | ret=>exact ⟨_,a₁,w₁,hq,.pass (x:=.inLoop c) rfl (fun _ _=>.inl (by simp)) harr⟩
      | panic ch=>exact ⟨_,a₁,w₁,hq,.pass (x:=.inLoop c) rfl (fun _ _=>.inl (by simp)) harr⟩
      | outgrown=>exact ⟨_,a₁,w₁,hq,.pass (x:=.inLoop c) rfl (fun _ _=>.inl (by simp)) harr⟩
  obtain ⟨e,a',w',hq,harr⟩:=key (xs.length + 1) s0 xs a w (by omega) hl h0
  exact ⟨e,a',w',hq,.of_steps (.one step_loop) harr⟩
theorem Cw {x:Code} (J:Act→World→Prop) (h1:x.wp P (Exit.then J Q) a w) (h2:∀ a w,J a w→Q .normal a w):x.wp P Q a w :=
  wp_mono h1 fun e a w h=>by cases e <;> first | exact h2 a w h | exact h
theorem EY {fn:Func} {R:Ending→World→Prop} (h:bodyPost P fn R .ret a w):bodyPost P fn R .normal a w:=h
end
def oI {κ ν:Type} (es:Array MapEntry) (seen:Array Nat) (xs:List (κ×ν)):List (κ×ν):=((es.toList.zip xs).filter fun p=>!seen.contains p.1.born).map (·.2)
theorem zj {κ ν:Type} {es:Array MapEntry} {xs:List (κ×ν)} (h:es.size=xs.length):oI es #[] xs=xs:=by
  unfold oI
  rw [List.filter_eq_self.2 (fun p _=>by simp)]
  exact List.map_snd_zip (by simp [h])
theorem tM {α:Type} {P P':α→Bool}:∀ (Z:List α) (i:Nat) (p:α),Z[i]? = some p→P p=true→P' p=false→(∀ j q,Z[j]? = some q→j ≠ i→P' q=P q)→(Z.filter P).Perm (p :: Z.filter P')
  | [],i,p,h,_,_,_=>by simp at h
  | z :: Z,0,p,h,h1,h2,h3=>by
    simp only [List.getElem?_cons_zero,Option.some.injEq] at h
    subst h
    rw [List.filter_cons_of_pos h1,List.filter_cons_of_neg (by rw [h2]; simp)]
    have:Z.filter P'=Z.filter P:=List.filter_congr fun q hq=>by
      obtain ⟨j,hj⟩:=List.mem_iff_getElem?.1 hq
      exact h3 (j + 1) q (by simpa using hj) (by omega)
    rw [this]
  | z :: Z,i + 1,p,h,h1,h2,h3=>by
    have ih:=tM Z i p (by simpa using h) h1 h2 fun j q hj hn=>h3 (j + 1) q (by simpa using hj) (by omega)
    have hz:=h3 0 z rfl (by omega)
    cases hp:P z with
    | true =>
      rw [List.filter_cons_of_pos hp,List.filter_cons_of_pos (by rw [hz]; exact hp)]
      exact (List.Perm.cons z ih).trans (List.Perm.swap p z _)
    | false =>
      rw [List.filter_cons_of_neg (by rw [hp]; simp),List.filter_cons_of_neg (by rw [hz,hp]; simp)]
      exact ih
def CK (es:Array MapEntry) (seen:Array Nat) (kv vv:Value):bW:=⟨fun _ _=>∃ (s0:Array Nat) (e:MapEntry),seen=Array.push s0 e.born∧e ∈ es.toList∧e.key=kv∧e.val=vv,fun h _ _=>h⟩
section
variable {κ ν:Type} {P:Program} {W:World} {M T E:Nat→Prop} {n:Nat} {G G':List (Nat×Value)} {D D':List cx} {F F':List bW} {a:Act} {w w':World} {K:Act→World→Prop}
variable {kt et:TypeId} {RK:aR κ} {ak:Bool} {RV:aR ν} {av:Bool} {q:κ→κ→Bool} {b r ck:Nat} {es:Array MapEntry} {seen:Array Nat} {xs:List (κ×ν)}
theorem AT (h:(leftOf es seen).size=0):oI es seen xs=[]:=by
  unfold oI
  rw [List.map_eq_nil_iff,List.filter_eq_nil_iff]
  rintro ⟨e,x⟩ hp hn
  have he:=(List.of_mem_zip hp).1
  have:e ∈ (leftOf es seen).toList:=by
    unfold leftOf
    simp only [Array.toList_filter,List.mem_filter]
    exact ⟨he,hn⟩
  have h2:(leftOf es seen).toList=[]:=List.eq_nil_of_length_eq_zero (by simpa using h)
  rw [h2] at this
  cases this
theorem AU {T:Nat→Prop} {w:World} {e:MapEntry} (hm:es.size=xs.length) (hB:gD es ck) (he:e ∈ (leftOf es seen).toList) :
    ∃ (i:Nat) (x:κ×ν),es[i]? = some e∧xs[i]? = some x∧(oI es seen xs).Perm (x :: oI es (seen.push e.born) xs):=by
  unfold leftOf at he
  simp only [Array.toList_filter,List.mem_filter] at he
  obtain ⟨he,hn⟩:=he
  obtain ⟨i,hi⟩:=List.mem_iff_getElem?.1 he
  have hil:i < xs.length:=by rw [← hm]; have:=(List.getElem?_eq_some_iff.1 hi).1; simpa using this
  have hx:xs[i]? = some xs[i]:=List.getElem?_eq_getElem hil
  refine ⟨i,xs[i],by rw [← Array.getElem?_toList]; exact hi,hx,?_⟩
  have hz:(es.toList.zip xs)[i]? = some (e,xs[i]):=by rw [List.getElem?_zip_eq_some]; exact ⟨hi,hx⟩
  have h1:=tM (P:=fun p:MapEntry×(κ×ν)=>!seen.contains p.1.born) (P':=fun p=>!(seen.push e.born).contains p.1.born) (es.toList.zip xs) i (e,xs[i]) hz hn (by simp) (fun j p hj hji=>by
    rw [List.getElem?_zip_eq_some] at hj
    have hne:p.1.born ≠ e.born:=fun hb=>hji (hB.inj j i p.1 e (by rw [← Array.getElem?_toList]; exact hj.1) (by rw [← Array.getElem?_toList]; exact hi) hb)
    simp [hne])
  unfold oI
  exact h1.map (fun p:MapEntry×(κ×ν)=>p.2)
theorem Dt {d:Nat} {t ty:TypeId} {X:Operand} {pos:String} {af:Array Edge} {g:Option (Nat×Bool)} (hS:St W M T n G D F a w) (hn:Nat.blt d n=true) (ht:zS P t=some (kt,et)) (i:Nat) (hi:D[i]? = some (.obj b (.map es ck))) (hX:ev G X=some (.map (some b)))
    (k:∀ r,w.heap.size≤r→∀ a w',Kt No w w'→St W M T n ((d,.pointer (some ⟨r,0,none⟩)) :: G) (.obj r (.mapIter (some b) ck #[] ck) :: D) F a w'→K a w'):oJ P ⟨some d,.range t X,ty,pos,af,g⟩ a w K:=by
  have hb:w.heap[b]? = some (.map es ck):=hS.own _ (List.mem_of_getElem? hi)
  have hr:(execOp a.eval ⟨some d,.range t X,ty,pos,af,g⟩).run P w = .ok (.value (.pointer (some ⟨w.heap.size,0,none⟩))) (w.alloc (.mapIter (some b) ck #[] ck)):=by
    simp [execOp,hS.ev hX,Instr.range,run_underlying (jV ht),rn hb]
  refine ss hr (k w.heap.size (Nat.le_refl _) _ _ (Kt.alloc _ _) ?_)
  exact (hS.add (Kt.alloc _ _) (.obj w.heap.size (.mapIter (some b) ck #[] ck)) (heap_alloc_new w _) (fun k hk=>by simp only [cx.dom,Option.some.injEq] at hk; omega)).put hn _
theorem FX {d:Nat} {ty:TypeId} {X:Operand} {pos:String} {af:Array Edge} {g:Option (Nat×Bool)} (hS:St W M T n G D F a w) (hn:Nat.blt d n=true) (hX:ev G X=some (.pointer (some ⟨r,0,none⟩))) (i:Nat) (hi:D[i]? = some (.obj b (.map es ck))) (m:Nat) (hm:D[m]? = some (.obj r (.mapIter (some b) ck seen ck))) (him:i ≠ m) (j:Nat) (hj:F[j]? = some (mB RK ak RV av es xs)) (jb:Nat) (hjb:F[jb]? = some (tC es ck))
    (k0:oI es seen xs=[]→∀ a,St W M T n ((d,.tuple #[.bool false]) :: G) D F a w→K a w)
    (k1:∀ (kx:κ) (vx:ν) (kc vc:List Value) (seen':Array Nat) a w',Kt (fun j=>j=r) w w'→RK.rel (dT T (D.set m (.obj r (.mapIter (some b) ck seen' ck)))) w' kc kx→RV.rel (dT T (D.set m (.obj r (.mapIter (some b) ck seen' ck)))) w' vc vx→(oI es seen xs).Perm ((kx,vx) :: oI es seen' xs)→St W M T n ((d,.tuple #[.bool true,aW ak kc,aW av vc]) :: G) (D.set m (.obj r (.mapIter (some b) ck seen' ck))) (CK es seen' (aW ak kc) (aW av vc) :: F) a w'→K a w'):oJ P ⟨some d,.next X false,ty,pos,af,g⟩ a w K:=by
  have hb:w.heap[b]? = some (.map es ck):=hS.own _ (List.mem_of_getElem? hi)
  have hr:w.heap[r]? = some (.mapIter (some b) ck seen ck):=hS.own _ (List.mem_of_getElem? hm)
  have hB:gD es ck:=hS.get jb hjb
  have hold:∀ x ∈ es.toList,x.born < ck:=fun x hx=>by
    obtain ⟨z,hz⟩:=List.mem_iff_getElem?.1 hx
    exact hB.lt z x (by rw [← Array.getElem?_toList]; exact hz)
  rcases run_next_at (P:=P) w ty r b ck ck seen es ck hr hb hold (Nat.le_refl _) with ⟨h0,hrun⟩ | ⟨e,he,w1,hw1,hrun⟩
  · exact ss (w':=w) (by simp [execOp,hS.ev hX,hrun]) (k0 (AT h0) _ (hS.put hn _))
  · obtain ⟨z,x,h1,h2,h3⟩:=AU (T:=T) (w:=w) (hS.mapOk j hj).1 hB he
    have hS1:St W M T n G D F a w1:=by
      rcases hw1 with rfl | rfl
      · exact hS
      · exact hS.later (Kt.drew w)
    have hr1:w1.heap[r]? = some (.mapIter (some b) ck seen ck):=hS1.own _ (List.mem_of_getElem? hm)
    have hk1:Kt (fun j=>some r=some j) w1 (Go.ChangeMaps.setBlock w1 r (.mapIter (some b) ck (seen.push e.born) ck)):=mR hr1
    have hk:Kt (fun j=>j=r) w (Go.ChangeMaps.setBlock w1 r (.mapIter (some b) ck (seen.push e.born) ck)):=by
      have h5:Kt (fun j=>j=r) w w1:=by
        rcases hw1 with rfl | rfl
        · exact Kt.refl _ _
        · exact (Kt.drew w).no
      exact h5.trans (hk1.mono fun j hj=>(Option.some.inj hj).symm)
    have hS2:=hS1.turn hm hk1 (r':=.obj r (.mapIter (some b) ck (seen.push e.born) ck)) (nk hr1).1 fun j hj=>.inl hj
    obtain ⟨⟨kc,q1,q2⟩,vc,q3,q4⟩:=(hS2.mapOk j hj).2 z e x h1 h2
    refine ss (v:=.tuple #[.bool true,aW ak kc,aW av vc]) (w':=Go.ChangeMaps.setBlock w1 r (.mapIter (some b) ck (seen.push e.born) ck)) (by rw [← q2,← q4]; simp [execOp,hS.ev hX,hrun]) (k1 x.1 x.2 kc vc (seen.push e.born) _ _ hk q1 q3 h3 ?_)
    exact (hS2.fact (CK es (seen.push e.born) (aW ak kc) (aW av vc)) ⟨seen,e,rfl,List.mem_of_getElem? (by rw [Array.getElem?_toList]; exact h1),q2,q4⟩).put hn _
theorem DR {d:Option Nat} {ty:TypeId} {X:Operand} {pos:String} {af:Array Edge} {g:Option (Nat×Bool)} {kv vv:Value} (hS:St W M T n G D F a w) (hX:ev G X=some (.pointer (some ⟨r,0,none⟩))) (i:Nat) (hi:D[i]? = some (.obj b (.map es ck))) (m:Nat) (hm:D[m]? = some (.obj r (.mapIter (some b) ck seen ck))) (jb:Nat) (hjb:F[jb]? = some (tC es ck)) (jc:Nat) (hjc:F[jc]? = some (CK es seen kv vv)) :
    Ye P ⟨d,.entry X,ty,pos,af,g⟩ a No w (.tuple #[kv,vv]):=fun w' hk=>by
  have hb:w.heap[b]? = some (.map es ck):=hS.own _ (List.mem_of_getElem? hi)
  have hr:w.heap[r]? = some (.mapIter (some b) ck seen ck):=hS.own _ (List.mem_of_getElem? hm)
  have hb':=(hk.block b (Array.getElem?_eq_some_iff.1 hb).1 (fun h=>h)).trans hb
  have hr':=(hk.block r (Array.getElem?_eq_some_iff.1 hr).1 (fun h=>h)).trans hr
  have hB:gD es ck:=hS.get jb hjb
  obtain ⟨s0,e,rfl,he,rfl,rfl⟩:(CK es seen kv vv).p (dT T D) w:=hS.get jc hjc
  simp [execOp,hS.ev hX,run_entry_at (P:=P) w' r b ck s0 es ck e hr' hb' he hB.nodup]
end
end
section
open Go.RowKit
section
variable {P:Program} {W:World} {M T:Nat→Prop} {n d j t:Nat} {G:List (Nat×Value)} {D:List cx} {F:List bW} {a:Act} {w:World} {ops:Array Oper} {Q:Exit→Act→World→Prop} {rest:List Oper} {o:Oper} {v:Value} {x y:Operand} {ty tt t':TypeId} {pos:String} {af:Array Edge} {want c:Bool} {id:Nat} {l:List Oper} {z:Code}
theorem qy (hS:St W M T n G D F a w) (h:Ye P o a No w v) (k:∀ a,St W M T n ((d,v) :: G) D F a w→wpList P ops Q rest a w) (hg:o.guard=none:=by rfl) (hd:o.dst=some d:=by rfl) (hn:Nat.blt d n=true:=by rfl):wpList P ops Q (o :: rest) a w:=wy hS h hg hd hn k
theorem qg (hS:St W M T n G D F a w) (hc:c=want) (h:Ye P o a No w v) (k:∀ a,St W M T n ((d,v) :: G) D F a w→wpList P ops Q rest a w) (hg:o.guard=some (j,want):=by rfl) (hj:(ops[j]?).bind (·.dst)=some t:=by rfl) (ht:lk G t=some (.bool c):=by rfl) (hd:o.dst=some d:=by rfl) (hn:Nat.blt d n=true:=by rfl):wpList P ops Q (o :: rest) a w:=wg hS hg hj ht hc (ky hS h hd hn k)
theorem qm (hS:St W M T n G D F a w) (k:∀ a,St W M T n ((d,v) :: G) D F a w→wpList P ops Q rest a w) (hx:ev G x=some v:=by rfl) (hn:Nat.blt d n=true:=by rfl):wpList P ops Q (⟨some d,.move x,ty,pos,af,none⟩ :: rest) a w:=wy hS (CF hS hx) rfl rfl hn k
theorem qa (hS:St W M T n G D F a w) (k:∀ a,St W M T n ((d,v) :: G) D F a w→wpList P ops Q rest a w) (hx:ev G x=some v:=by rfl) (hn:Nat.blt d n=true:=by rfl):wpList P ops Q (⟨some d,.assign x,ty,pos,af,none⟩ :: rest) a w:=wy hS (yI hS hx) rfl rfl hn k
theorem rq (h:∀ K:Act→World→Prop,(∀ a w,z.wp P Q a w→K a w)→wpList P l.toArray (Exit.then K Q) l a w):(Code.seq (Code.region id l.toArray false) z).wp P Q a w:=wp_seq_k fun K hK=>zf (h K hK)
theorem rz (h:Q .normal a w):wpList P ops Q [] a w:=wpList_nil h
end
end
section
open Go.RowKit
section
variable {α:Type} {R:aR α} {P:Program} {W:World} {M T E:Nat→Prop} {n:Nat} {G:List (Nat×Value)} {D rs:List cx} {F:List bW} {a:Act} {w:World} {K:Act→World→Prop} {xs ys:List α} {i:Int} {x:α} {cs cl:List Value}
theorem CC {d:Option Nat} {X:Operand} {t e e':TypeId} {ty:TypeId} {pos:String} {af:Array Edge} {g:Option (Nat×Bool)} {v:Value} (hS:St W M T n G D F a w) (ht:lR P t=some e) (hx:ev G X=some v) (j:Nat) (hj:D[j]? = some (.own v e' R.size cl)) (p:Nat) (hp:F[p]? = some (am (HR R) cl (eI xs i cs))):Ye P ⟨d,.call { callee:=.builtin .len,args:=#[X],argTypes:=#[t] },ty,pos,af,g⟩ a E w (.int .i64 xs.length):=by
  have h:=CD (R:=HR R) (xs:=eI xs i cs) (d:=d) (ty:=ty) (pos:=pos) (af:=af) (g:=g) (E:=E) hS ht hx j hj p hp
  rw [sm] at h
  exact h
theorem C1 {e e' t:TypeId} {v:Value} {lo hi:Int} {ag:Bool} (hS:St W M T n G D F a w) (ht:lR P t=some e) (he:mT P e=some (ag,R.size)) (q:Nat) (hq:D[q]? = some (.own v e' R.size cl)) (j:Nat) (hj:F[j]? = some (am (HR R) cl (eI xs i cs))) (hg:ql xs lo hi=some ys) :
    ∃ v',(∀ (T:Nat→Prop) (w:World),aB R T w v xs→aB R T w v' ys)∧(∀ {E:Nat→Prop} {d:Option Nat} {ty:TypeId} {X:Operand} {olo ohi:Option Operand} {pos:String} {af:Array Edge} {g:Option (Nat×Bool)} {k1 k2:IntKind},ev G X=some v→((∃ x,olo=some x∧ev G x=some (.int k1 lo))∨(olo=none∧lo=0))→((∃ x,ohi=some x∧ev G x=some (.int k2 hi))∨(ohi=none∧hi=xs.length))→Ye P ⟨d,.slice t X olo ohi none,ty,pos,af,g⟩ a E w v'):=by
  obtain ⟨q1,q2,q3,rfl⟩:=rf hg
  obtain ⟨A,c,hv,h1,h2,hS'⟩:=HA (R:=HR R) (xs:=eI xs i cs) (lo:=lo.toNat) (hi:=hi.toNat) hS q hq j hj (by omega) (by rw [sm]; omega)
  rw [sm] at hv h1
  refine ⟨_,fun T w h=>?_,fun hX hlo hhi=>HM hS ht he q1 q2 q3 h1 hv hX hlo hhi⟩
  subst hv
  refine h.cut (by omega) (by omega) _ (fun hlt b o hA=>?_)
  rw [if_neg (by omega),hA]
  simp [nb,HR]
theorem BE {d:Nat} {t e e' ty:TypeId} {X Y:Operand} {pos:String} {af:Array Edge} {g:Option (Nat×Bool)} {v:Value} {k:IntKind} {ag:Bool} (hS:St W M T n G D F a w) (ht:lR P t=some e) (he:mT P e=some (ag,R.size)) (hX:ev G X=some v) (hY:ev G Y=some (.int k i)) (q:Nat) (hq:D[q]? = some (.own v e' R.size cl)) (j:Nat) (hj:F[j]? = some (am (HR R) cl (eI xs i cs))) (hg:bm xs i=some x) (hn:Nat.blt d n=true)
    (K':∀ b o p,CL v b o R.size i p→(∀ k u,cs[k]? = some u→cl[p + k]? = some u)→∀ a,St W M T n ((d,.pointer (some ⟨b,o,none⟩)) :: G) D F a w→K a w):oJ P ⟨some d,.indexAddr t X Y,ty,pos,af,g⟩ a w K :=
  dI (R:=HR R) hS ht he hX hY q hq j hj (qT hg cs) hn fun b o p c hr ho hc=>by
    obtain ⟨rfl,_,_⟩:=hr
    exact K' b o p ho hc
theorem mE {t ty e:TypeId} {X Y:Operand} {pos:String} {af:Array Edge} {g:Option (Nat×Bool)} {ag:Bool} {z b o k p:Nat} {v u:Value} {us:List Value} (hS:St W M T n G D F a w) (hX:ev G X=some (.pointer (some ⟨b,o + k,none⟩))) (hY:ev G Y=some u) (hu:u.cells.toList=us) (ht:mT P t=some (ag,z)) (q:Nat) (hq:D[q]? = some (.own v e R.size cl)) (j:Nat) (hj:F[j]? = some (am (HR R) cl (eI xs i cs))) (ho:CL v b o R.size i p) (hg:bm xs i=some x)
    (hz:us.length=z) (hl:Nat.ble (k + z) cs.length=true) (hone:∀ y ∈ us,y.oneCell'=true)
    (K':∀ cl' w',Kt (fun j=>v.ownBlock=some j) w w'→St W M T n G (D.set q (.own v e R.size cl')) (am (HR R) cl' (eI xs i (lK cs k us)) :: F) a w'→K a w'):oJ P ⟨none,.store t X Y,ty,pos,af,g⟩ a w K :=
  BF hS hX hY hu ht q hq j hj ho hg hz hl (fun y hy=>by
    have hr:(HR R).rel (dT T D) w cs (Sum.inl cs):=x5 (hS.get j hj) hg
    unfold lK at hy
    simp only [List.mem_append] at hy
    rcases hy with (hy | hy) | hy
    · exact hr.2.2 y (List.mem_of_mem_take hy)
    · exact hone y hy
    · exact hr.2.2 y (List.mem_of_mem_drop hy)) K'
theorem St.closeHs (hS:St W M T n G D F a w) (j:Nat) (hj:F[j]? = some (am (HR R) cl (eI xs i cs))) (hg:bm xs i=some x) (hr:R.rel (dT T D) w cs x):St W M T n G D (am R cl xs :: F) a w:=by
  have h:=hS.closeH j hj hr
  rw [Cm hg] at h
  exact h
def uZ {α:Type} (p:List α) (cs:List Value):List (List Value ⊕ α):=p.map Sum.inr ++ [Sum.inl cs]
theorem wo {p:List α} (h:i.toNat=p.length):eI (p ++ [x]) i cs=uZ p cs:=by
  unfold eI uZ
  rw [h,List.map_append,List.set_append_right _ _ (by simp)]
  simp
theorem B0 {v:Value} {e:TypeId} (hS:St W M T n G D F a w) (q:Nat) (hq:D[q]? = some (.own v e R.size cl)) (j:Nat) (hj:F[j]? = some (am R cl xs)):xs.length≤maxLen:=by
  obtain ⟨h1,h2⟩:=hS.own _ (List.mem_of_getElem? hq)
  have h3:aD R (dT T D) w cl xs:=hS.get j hj
  obtain ⟨A,m,c,rfl,h4,h5,h6,_⟩:=h1.form h2
  have:m=xs.length:=Nat.mul_right_cancel h2 (h4.symm.trans h3.1)
  omega
theorem BK {p:List α} {x e:α} (hb:p.length≤maxLen) (h:bm (p ++ [x]) (IntKind.i64.wrap (((p ++ [x]).length:Int) - 1))=some e):x=e∧(IntKind.i64.wrap (((p ++ [x]).length:Int) - 1)).toNat=p.length:=by
  obtain ⟨h1,h2,h3⟩:=fy h
  have hl:(p ++ [x]).length=p.length + 1:=by simp
  unfold maxLen at hb
  have hw:IntKind.i64.wrap (((p ++ [x]).length:Int) - 1)=p.length:=by rw [IntKind.wrap_i64,hl]; omega
  rw [hw] at h3 ⊢
  refine ⟨?_,by simp⟩
  simpa using h3
theorem St.closeLast {p:List α} (hS:St W M T n G D F a w) (j:Nat) (hj:F[j]? = some (am (HR R) cl (uZ p cs))) (hr:R.rel (dT T D) w cs x):St W M T n G D (am R cl (p ++ [x]) :: F) a w:=by
  have h:=hS.closeH (R:=R) (xs:=p ++ [x]) (i:=(p.length:Int)) (cs:=cs) j (by rw [wo (by simp)]; exact hj) hr
  rw [show (p ++ [x]).set ((p.length:Int)).toNat x=p ++ [x] by simp] at h
  exact h
end
end
section
open Go.RowKit
structure ae where
  Kind:Int
  Text:ByteArray
def ad:aR ae where
  size:=2
  rel:=fun _ _ cs x=>cs=[.int .i64 x.Kind,.string x.Text]
  len:=by rintro _ _ _ _ rfl; rfl
  one:=by rintro _ _ _ _ rfl; exact (oc rfl (oc rfl on))
  keep:=fun h _ _=>h
structure aG where
  Key:ae
  Value:ByteArray
  Changed:Int
def ac:aR aG where
  size:=4
  rel:=fun _ _ cs x=>cs=[.int .i64 x.Key.Kind,.string x.Key.Text,.string x.Value,.int .i64 x.Changed]
  len:=by rintro _ _ _ _ rfl; rfl
  one:=by rintro _ _ _ _ rfl; exact (oc rfl (oc rfl (oc rfl (oc rfl on))))
  keep:=fun h _ _=>h
structure al where
  Key:ae
  Value:ByteArray
  Reads:(List ae)
  Changed:Int
  Verified:Int
  Cost:Int
  Dirty:Bool
def aa:aR al where
  size:=8
  rel:=fun T w cs x=>∃ v1,cs=[.int .i64 x.Key.Kind,.string x.Key.Text,.string x.Value,v1,.int .i64 x.Changed,.int .i64 x.Verified,.int .i64 x.Cost,.bool x.Dirty]∧aB ad T w v1 x.Reads
  len:=by rintro _ _ _ _ ⟨v1,rfl,hv1⟩; rfl
  one:=by rintro _ _ _ _ ⟨v1,rfl,hv1⟩; exact (oc rfl (oc rfl (oc rfl (oc hv1.one (oc rfl (oc rfl (oc rfl (oc rfl on))))))))
  keep:=by rintro _ _ _ _ _ _ ⟨v1,rfl,hv1⟩ k n; exact ⟨v1,rfl,hv1.keep k n⟩
structure ah where
  Revision:Int
  Inputs:(List aG)
  Records:(List al)
structure aT where
  Key:ae
  Value:ByteArray
def aK:aR aT where
  size:=3
  rel:=fun _ _ cs x=>cs=[.int .i64 x.Key.Kind,.string x.Key.Text,.string x.Value]
  len:=by rintro _ _ _ _ rfl; rfl
  one:=by rintro _ _ _ _ rfl; exact (oc rfl (oc rfl (oc rfl on)))
  keep:=fun h _ _=>h
theorem D5:aM Tryz.prog 100=true:=by kernel_rfl
theorem GH:aM Tryz.prog 118=true:=by kernel_rfl
theorem uB:aM Tryz.prog 12=true:=by kernel_rfl
theorem GI:aM Tryz.prog 125=true:=by kernel_rfl
theorem GJ:aM Tryz.prog 126=true:=by kernel_rfl
theorem GK:aM Tryz.prog 127=true:=by kernel_rfl
theorem GR:aM Tryz.prog 17=true:=by kernel_rfl
theorem GU:aM Tryz.prog 27=true:=by kernel_rfl
theorem H7:aM Tryz.prog 28=true:=by kernel_rfl
theorem CW:aM Tryz.prog 29=true:=by kernel_rfl
theorem H8:aM Tryz.prog 30=true:=by kernel_rfl
theorem H9:aM Tryz.prog 31=true:=by kernel_rfl
theorem EL:aM Tryz.prog 32=true:=by kernel_rfl
theorem Ia:aM Tryz.prog 33=true:=by kernel_rfl
theorem CX:aM Tryz.prog 35=true:=by kernel_rfl
theorem Ic:aM Tryz.prog 36=true:=by kernel_rfl
theorem GW:aM Tryz.prog 37=true:=by kernel_rfl
theorem Id:aM Tryz.prog 38=true:=by kernel_rfl
theorem Ie:aM Tryz.prog 39=true:=by kernel_rfl
theorem Ij:aM Tryz.prog 53=true:=by kernel_rfl
theorem Ik:aM Tryz.prog 54=true:=by kernel_rfl
theorem GY:aM Tryz.prog 55=true:=by kernel_rfl
theorem Il:aM Tryz.prog 56=true:=by kernel_rfl
theorem Im:aM Tryz.prog 57=true:=by kernel_rfl
theorem In:aM Tryz.prog 58=true:=by kernel_rfl
theorem Ip:aM Tryz.prog 59=true:=by kernel_rfl
theorem Iq:aM Tryz.prog 60=true:=by kernel_rfl
theorem Ir:aM Tryz.prog 61=true:=by kernel_rfl
theorem GZ:aM Tryz.prog 62=true:=by kernel_rfl
theorem It:aM Tryz.prog 67=true:=by kernel_rfl
theorem EQ:aM Tryz.prog 68=true:=by kernel_rfl
theorem G0:aM Tryz.prog 69=true:=by kernel_rfl
theorem Iu:aM Tryz.prog 70=true:=by kernel_rfl
theorem IC:aM Tryz.prog 87=true:=by kernel_rfl
theorem ID:aM Tryz.prog 88=true:=by kernel_rfl
theorem IE:aM Tryz.prog 89=true:=by kernel_rfl
theorem G5:aM Tryz.prog 90=true:=by kernel_rfl
theorem IG:aM Tryz.prog 95=true:=by kernel_rfl
theorem IH:aM Tryz.prog 96=true:=by kernel_rfl
theorem II:aM Tryz.prog 97=true:=by kernel_rfl
theorem G6:aM Tryz.prog 98=true:=by kernel_rfl
theorem IJ:aM Tryz.prog 99=true:=by kernel_rfl
theorem C4:xV Tryz.prog 22=some (3,1,8):=by kernel_rfl
theorem vG:xV Tryz.prog 28=some (61,4,48):=by kernel_rfl
theorem pp:xV Tryz.prog 29=some (77,8,96):=by kernel_rfl
theorem iq:xV Tryz.prog 49=some (35,2,24):=by kernel_rfl
theorem EZ:eE Tryz.prog 31 0=some 0:=by kernel_rfl
theorem E0:eE Tryz.prog 31 1=some 1:=by kernel_rfl
theorem E1:eE Tryz.prog 31 2=some 2:=by kernel_rfl
theorem E2:eE Tryz.prog 35 0=some 0:=by kernel_rfl
theorem E3:eE Tryz.prog 35 1=some 1:=by kernel_rfl
theorem E4:eE Tryz.prog 37 0=some 0:=by kernel_rfl
theorem E5:eE Tryz.prog 37 1=some 2:=by kernel_rfl
theorem E8:eE Tryz.prog 61 0=some 0:=by kernel_rfl
theorem E9:eE Tryz.prog 61 1=some 2:=by kernel_rfl
theorem Fa:eE Tryz.prog 61 2=some 3:=by kernel_rfl
theorem Fc:eE Tryz.prog 77 0=some 0:=by kernel_rfl
theorem Fd:eE Tryz.prog 77 1=some 2:=by kernel_rfl
theorem Fe:eE Tryz.prog 77 2=some 3:=by kernel_rfl
theorem Ff:eE Tryz.prog 77 3=some 4:=by kernel_rfl
theorem Fg:eE Tryz.prog 77 4=some 5:=by kernel_rfl
theorem Fh:eE Tryz.prog 77 5=some 6:=by kernel_rfl
theorem Fi:eE Tryz.prog 77 6=some 7:=by kernel_rfl
theorem He:Tryz.prog.underlying 163=some (.interface (Tryz.prog.methodsAt 163)):=by kernel_rfl
theorem mixed:Tryz.prog.follows .mixedOrders=true:=by kernel_rfl
theorem rU:zS Tryz.prog 65=some (35,9):=by kernel_rfl
theorem B6:yM Tryz.prog 61=some [(0,2),(2,1),(3,1)]:=by kernel_rfl
theorem AZ:lR Tryz.prog 22=some 3:=by kernel_rfl
theorem ro:lR Tryz.prog 28=some 61:=by kernel_rfl
theorem nH:lR Tryz.prog 29=some 77:=by kernel_rfl
theorem vT:lR Tryz.prog 43=some 37:=by kernel_rfl
theorem nI:lR Tryz.prog 49=some 35:=by kernel_rfl
theorem IZ:mT Tryz.prog 28=some (false,1):=by kernel_rfl
theorem I0:mT Tryz.prog 29=some (false,1):=by kernel_rfl
theorem wI:mT Tryz.prog 3=some (false,1):=by kernel_rfl
theorem fG:mT Tryz.prog 31=some (true,3):=by kernel_rfl
theorem fY:mT Tryz.prog 35=some (true,2):=by kernel_rfl
theorem vU:mT Tryz.prog 37=some (true,3):=by kernel_rfl
theorem Ge:mT Tryz.prog 4=some (false,1):=by kernel_rfl
theorem zp:mT Tryz.prog 49=some (false,1):=by kernel_rfl
theorem qN:mT Tryz.prog 61=some (true,4):=by kernel_rfl
theorem kQ:mT Tryz.prog 77=some (true,8):=by kernel_rfl
theorem DM:mT Tryz.prog 9=some (false,1):=by kernel_rfl
theorem HW:jQ Tryz.prog 3=some [.int .i64 0]:=by kernel_rfl
theorem jP:jQ Tryz.prog 31=some [.int .i64 0,.slice none 0 0,.slice none 0 0]:=by kernel_rfl
theorem gM:jQ Tryz.prog 35=some [.int .i64 0,.string (ByteArray.mk #[])]:=by kernel_rfl
theorem pb:jQ Tryz.prog 37=some [.int .i64 0,.string (ByteArray.mk #[]),.string (ByteArray.mk #[])]:=by kernel_rfl
theorem qn:jQ Tryz.prog 61=some [.int .i64 0,.string (ByteArray.mk #[]),.string (ByteArray.mk #[]),.int .i64 0]:=by kernel_rfl
theorem fJ:jQ Tryz.prog 77=some [.int .i64 0,.string (ByteArray.mk #[]),.string (ByteArray.mk #[]),.slice none 0 0,.int .i64 0,.int .i64 0,.int .i64 0,.bool false]:=by kernel_rfl
theorem wW {W:World} {M T E:Nat→Prop} {n:Nat} {G:List (Nat×Value)} {D:List cx} {F:List bW} {a:Act} {w:World} {d:Option Nat} {t2:TypeId} {x y:Operand} {ty:TypeId} {pos:String} {af:Array Edge} {g:Option (Nat×Bool)} {p0 q0:Int} {p1 q1:ByteArray} (hS:St W M T n G D F a w) (hx:ev G x=some (.agg #[.int .i64 p0,.string p1])) (hy:ev G y=some (.agg #[.int .i64 q0,.string q1])):Ye Tryz.prog ⟨d,.binOp .eql 35 x y t2,ty,pos,af,g⟩ a E w (.bool (p0 == q0 && p1.toList == q1.toList)) :=
  Ye.of fun w=>by
    have h1:=hS.ev hx
    have h2:=hS.ev hy
    clear hS hx hy
    simp only [execOp,h1,h2,eqGuard]
    simp [go_sem]
    (repeat' split) <;> simp_all
theorem wh {W:World} {M T E:Nat→Prop} {n:Nat} {G:List (Nat×Value)} {D:List cx} {F:List bW} {a:Act} {w:World} {d:Option Nat} {t2:TypeId} {x y:Operand} {ty:TypeId} {pos:String} {af:Array Edge} {g:Option (Nat×Bool)} {p0 q0:Int} {p1 q1:ByteArray} (hS:St W M T n G D F a w) (hx:ev G x=some (.agg #[.int .i64 p0,.string p1])) (hy:ev G y=some (.agg #[.int .i64 q0,.string q1])):Ye Tryz.prog ⟨d,.binOp .neq 35 x y t2,ty,pos,af,g⟩ a E w (.bool (!(p0 == q0 && p1.toList == q1.toList))) :=
  Ye.of fun w=>by
    have h1:=hS.ev hx
    have h2:=hS.ev hy
    clear hS hx hy
    simp only [execOp,h1,h2,eqGuard]
    simp [go_sem]
    (repeat' split) <;> simp_all
def aA (a b:ae):Bool:=a.Kind == b.Kind && a.Text.toList == b.Text.toList
theorem dE:s5 Tryz.prog 35 ad true aA where
  check:=by
    rintro b T w0 w c x rfl
    show (Instr.checkKey b (Nat.succ (Nat.succ 9998)) 35 _).run Tryz.prog w=_
    generalize 9998=N
    simp [Instr.checkKey,aW,go_sem]
  eq:=by
    rintro T T2 w0 w1 w c d x y rfl rfl
    unfold aA Op.equal
    show (Op.equalIn (Nat.succ (Nat.succ 9998)) 35 _ _).run Tryz.prog w=_
    generalize 9998=N
    simp [Op.equalIn,aW,beq_toListBytes,go_sem]
    (try (repeat' split) <;> simp_all)
  now:=⟨_,Tryz.underlying35,by rintro T T2 w0 w1 c d x y rfl rfl; first | (exact .inl rfl) | (right; unfold aA; simp [aW,Instr.sameNow,beq_toListBytes])⟩
  bits:=by
    rintro T T2 w0 w1 c d x y rfl rfl h
    unfold aA at h
    show Instr.sameBits (Nat.succ (Nat.succ 9998)) _ _=_
    generalize 9998=N
    simp [aW,Instr.sameBits,beq_toListBytes] at h ⊢
    simp [h]
end
section
open Go.RowKit
structure aQ where
  L:(List Int)
  At:Int
structure cI where
  Cell:Bool
  Pick:Bool
  N:Int
  Else:Int
def eb:aR cI where
  size:=4
  rel:=fun _ _ cs x=>cs=[.bool x.Cell,.bool x.Pick,.int .i64 x.N,.int .i64 x.Else]
  len:=by rintro _ _ _ _ rfl; rfl
  one:=by rintro _ _ _ _ rfl; exact (oc rfl (oc rfl (oc rfl (oc rfl on))))
  keep:=fun h _ _=>h
structure aL where
  Ring:Bool
  Asks:(List cI)
  Final:Int
  C:Int
def aq:aR aL where
  size:=4
  rel:=fun T w cs x=>∃ v1,cs=[.bool x.Ring,v1,.int .i64 x.Final,.int .i64 x.C]∧aB eb T w v1 x.Asks
  len:=by rintro _ _ _ _ ⟨v1,rfl,hv1⟩; rfl
  one:=by rintro _ _ _ _ ⟨v1,rfl,hv1⟩; exact (oc rfl (oc hv1.one (oc rfl (oc rfl on))))
  keep:=by rintro _ _ _ _ _ _ ⟨v1,rfl,hv1⟩ k n; exact ⟨v1,rfl,hv1.keep k n⟩
theorem GB:aM Tryz.prog 11=true:=by kernel_rfl
theorem xO:aM Tryz.prog 13=true:=by kernel_rfl
theorem EK:aM Tryz.prog 14=true:=by kernel_rfl
theorem vD:aM Tryz.prog 16=true:=by kernel_rfl
theorem CV:aM Tryz.prog 18=true:=by kernel_rfl
theorem GS:aM Tryz.prog 20=true:=by kernel_rfl
theorem lJ:aM Tryz.prog 25=true:=by kernel_rfl
theorem H6:aM Tryz.prog 26=true:=by kernel_rfl
theorem Ib:aM Tryz.prog 34=true:=by kernel_rfl
theorem GX:aM Tryz.prog 40=true:=by kernel_rfl
theorem Is:aM Tryz.prog 65=true:=by kernel_rfl
theorem IF:aM Tryz.prog 93=true:=by kernel_rfl
theorem C5:xV Tryz.prog 27=some (81,4,48):=by kernel_rfl
theorem y4:xV Tryz.prog 43=some (37,3,40):=by kernel_rfl
theorem EX:xV Tryz.prog 79=some (85,4,24):=by kernel_rfl
theorem uM:xV Tryz.prog 98=some (9,1,16):=by kernel_rfl
theorem E6:eE Tryz.prog 55 0=some 0:=by kernel_rfl
theorem E7:eE Tryz.prog 55 1=some 1:=by kernel_rfl
theorem Fj:eE Tryz.prog 81 0=some 0:=by kernel_rfl
theorem Fk:eE Tryz.prog 81 1=some 1:=by kernel_rfl
theorem Fm:eE Tryz.prog 81 2=some 2:=by kernel_rfl
theorem Fn:eE Tryz.prog 81 3=some 3:=by kernel_rfl
theorem Fp:eE Tryz.prog 85 0=some 0:=by kernel_rfl
theorem Fq:eE Tryz.prog 85 1=some 1:=by kernel_rfl
theorem Fr:eE Tryz.prog 85 2=some 2:=by kernel_rfl
theorem Fs:eE Tryz.prog 85 3=some 3:=by kernel_rfl
theorem B5:yM Tryz.prog 31=some [(0,1),(1,1),(2,1)]:=by kernel_rfl
theorem zd:yM Tryz.prog 35=some [(0,1),(1,1)]:=by kernel_rfl
theorem DE:yM Tryz.prog 37=some [(0,2),(2,1)]:=by kernel_rfl
theorem IS:yM Tryz.prog 55=some [(0,1),(1,1)]:=by kernel_rfl
theorem DF:yM Tryz.prog 81=some [(0,1),(1,1),(2,1),(3,1)]:=by kernel_rfl
theorem Hr:yM Tryz.prog 85=some [(0,1),(1,1),(2,1),(3,1)]:=by kernel_rfl
theorem tx:lR Tryz.prog 27=some 81:=by kernel_rfl
theorem Gd:lR Tryz.prog 79=some 85:=by kernel_rfl
theorem Cq:lR Tryz.prog 98=some 9:=by kernel_rfl
theorem IX:mT Tryz.prog 22=some (false,1):=by kernel_rfl
theorem I2:mT Tryz.prog 79=some (false,1):=by kernel_rfl
theorem sU:mT Tryz.prog 81=some (true,4):=by kernel_rfl
theorem Gf:mT Tryz.prog 85=some (true,4):=by kernel_rfl
theorem I4:jQ Tryz.prog 55=some [.slice none 0 0,.int .i64 0]:=by kernel_rfl
theorem tZ:jQ Tryz.prog 81=some [.bool false,.slice none 0 0,.int .i64 0,.int .i64 0]:=by kernel_rfl
theorem zv:jQ Tryz.prog 85=some [.bool false,.bool false,.int .i64 0,.int .i64 0]:=by kernel_rfl
theorem HP:jQ Tryz.prog 9=some [.string (ByteArray.mk #[])]:=by kernel_rfl
theorem G9 {W:World} {M T E:Nat→Prop} {n:Nat} {G:List (Nat×Value)} {D:List cx} {F:List bW} {a:Act} {w:World} {d:Option Nat} {t2:TypeId} {x y:Operand} {ty:TypeId} {pos:String} {af:Array Edge} {g:Option (Nat×Bool)} {p0 q0:Int} {p1 q1:ByteArray} {p2 q2:ByteArray} {p3 q3:Int} (hS:St W M T n G D F a w) (hx:ev G x=some (.agg #[.int .i64 p0,.string p1,.string p2,.int .i64 p3])) (hy:ev G y=some (.agg #[.int .i64 q0,.string q1,.string q2,.int .i64 q3])):Ye Tryz.prog ⟨d,.binOp .neq 61 x y t2,ty,pos,af,g⟩ a E w (.bool (!(p0 == q0 && p1.toList == q1.toList && p2.toList == q2.toList && p3 == q3))) :=
  Ye.of fun w=>by
    have h1:=hS.ev hx
    have h2:=hS.ev hy
    clear hS hx hy
    simp only [execOp,h1,h2,eqGuard]
    simp [go_sem]
    (repeat' split) <;> simp_all
end
section
open Go.RowKit
theorem zE:aM Tryz.prog 101=true:=by kernel_rfl
theorem Gx:aM Tryz.prog 102=true:=by kernel_rfl
theorem D6:aM Tryz.prog 103=true:=by kernel_rfl
theorem GD:aM Tryz.prog 112=true:=by kernel_rfl
theorem uC:aM Tryz.prog 41=true:=by kernel_rfl
theorem EM:aM Tryz.prog 42=true:=by kernel_rfl
theorem Bn:aM Tryz.prog 43=true:=by kernel_rfl
theorem uD:aM Tryz.prog 44=true:=by kernel_rfl
theorem EN:aM Tryz.prog 45=true:=by kernel_rfl
theorem As:aM Tryz.prog 46=true:=by kernel_rfl
theorem Iv:aM Tryz.prog 71=true:=by kernel_rfl
theorem Iw:aM Tryz.prog 72=true:=by kernel_rfl
theorem CY:aM Tryz.prog 73=true:=by kernel_rfl
theorem G2:aM Tryz.prog 74=true:=by kernel_rfl
theorem s7:aM Tryz.prog 81=true:=by kernel_rfl
end
section
open Go.RowKit
structure bc where
  Key:ae
  Running:Bool
  At:Int
  Reads:(List ae)
  Answers:(List ByteArray)
def an:aR bc where
  size:=6
  rel:=fun T w cs x=>∃ v1 v2,cs=[.int .i64 x.Key.Kind,.string x.Key.Text,.bool x.Running,.int .i64 x.At,v1,v2]∧aB ad T w v1 x.Reads∧aB aR.str T w v2 x.Answers
  len:=by rintro _ _ _ _ ⟨v1,v2,rfl,hv1,hv2⟩; rfl
  one:=by rintro _ _ _ _ ⟨v1,v2,rfl,hv1,hv2⟩; exact (oc rfl (oc rfl (oc rfl (oc rfl (oc hv1.one (oc hv2.one on))))))
  keep:=by rintro _ _ _ _ _ _ ⟨v1,v2,rfl,hv1,hv2⟩ k n; exact ⟨v1,v2,rfl,hv1.keep k n,hv2.keep k n⟩
structure cJ where
  Rules:(List aL)
  Base:ah
  Goals:(List ae)
  Stack:(List bc)
  Ran:(List ae)
structure cy where
  Member:ae
  Read:ae
def fb:aR cy where
  size:=4
  rel:=fun _ _ cs x=>cs=[.int .i64 x.Member.Kind,.string x.Member.Text,.int .i64 x.Read.Kind,.string x.Read.Text]
  len:=by rintro _ _ _ _ rfl; rfl
  one:=by rintro _ _ _ _ rfl; exact (oc rfl (oc rfl (oc rfl (oc rfl on))))
  keep:=fun h _ _=>h
theorem Gy:aM Tryz.prog 104=true:=by kernel_rfl
theorem D7:aM Tryz.prog 105=true:=by kernel_rfl
theorem Gz:aM Tryz.prog 106=true:=by kernel_rfl
theorem D8:aM Tryz.prog 107=true:=by kernel_rfl
theorem wd:aM Tryz.prog 108=true:=by kernel_rfl
theorem kr:aM Tryz.prog 115=true:=by kernel_rfl
theorem Ea:aM Tryz.prog 128=true:=by kernel_rfl
theorem Eh:aM Tryz.prog 148=true:=by kernel_rfl
theorem Ei:aM Tryz.prog 149=true:=by kernel_rfl
theorem Ar:aM Tryz.prog 21=true:=by kernel_rfl
theorem ER:aM Tryz.prog 75=true:=by kernel_rfl
theorem ES:aM Tryz.prog 76=true:=by kernel_rfl
theorem Ix:aM Tryz.prog 77=true:=by kernel_rfl
theorem G4:aM Tryz.prog 86=true:=by kernel_rfl
theorem Ep:xV Tryz.prog 167=some (181,4,48):=by kernel_rfl
theorem wU:xV Tryz.prog 86=some (122,6,88):=by kernel_rfl
theorem wY:eE Tryz.prog 122 3=some 4:=by kernel_rfl
theorem wZ:eE Tryz.prog 122 4=some 5:=by kernel_rfl
theorem Ft:eE Tryz.prog 88 0=some 0:=by kernel_rfl
theorem Fu:eE Tryz.prog 88 1=some 1:=by kernel_rfl
theorem Fv:eE Tryz.prog 88 2=some 4:=by kernel_rfl
theorem Fw:eE Tryz.prog 88 3=some 5:=by kernel_rfl
theorem Fx:eE Tryz.prog 88 4=some 6:=by kernel_rfl
theorem rD:zS Tryz.prog 126=some (35,4):=by kernel_rfl
theorem Hp:yM Tryz.prog 181=some [(0,2),(2,2)]:=by kernel_rfl
theorem Hq:yM Tryz.prog 77=some [(0,2),(2,1),(3,1),(4,1),(5,1),(6,1),(7,1)]:=by kernel_rfl
theorem F8:yM Tryz.prog 88=some [(0,1),(1,3),(4,1),(5,1),(6,1)]:=by kernel_rfl
theorem vn:lR Tryz.prog 86=some 122:=by kernel_rfl
theorem qM:mT Tryz.prog 122=some (true,6):=by kernel_rfl
theorem IY:mT Tryz.prog 27=some (false,1):=by kernel_rfl
theorem HF:mT Tryz.prog 86=some (false,1):=by kernel_rfl
theorem tB:mT Tryz.prog 88=some (true,7):=by kernel_rfl
theorem zq:mT Tryz.prog 98=some (false,1):=by kernel_rfl
theorem pE:jQ Tryz.prog 122=some [.int .i64 0,.string (ByteArray.mk #[]),.bool false,.int .i64 0,.slice none 0 0,.slice none 0 0]:=by kernel_rfl
theorem Ag:jQ Tryz.prog 181=some [.int .i64 0,.string (ByteArray.mk #[]),.int .i64 0,.string (ByteArray.mk #[])]:=by kernel_rfl
theorem vA:jQ Tryz.prog 88=some [.slice none 0 0,.int .i64 0,.slice none 0 0,.slice none 0 0,.slice none 0 0,.slice none 0 0,.slice none 0 0]:=by kernel_rfl
theorem Gn:ED Tryz.prog 4=some (.bool false):=by kernel_rfl
end
section
open Go.RowKit
structure aj where
  Rules:(List aL)
  Base:ah
  Memo:(List (ae×ByteArray))
  Seen:(List (ae×(List ae)))
structure na where
  Done:Bool
  Value:ByteArray
  Ask:ae
theorem GA:aM Tryz.prog 109=true:=by kernel_rfl
theorem D9:aM Tryz.prog 110=true:=by kernel_rfl
theorem zF:aM Tryz.prog 129=true:=by kernel_rfl
theorem zG:aM Tryz.prog 130=true:=by kernel_rfl
theorem Bk:aM Tryz.prog 131=true:=by kernel_rfl
theorem sg:aM Tryz.prog 132=true:=by kernel_rfl
theorem Ej:aM Tryz.prog 150=true:=by kernel_rfl
theorem zI:aM Tryz.prog 152=true:=by kernel_rfl
theorem GP:aM Tryz.prog 162=true:=by kernel_rfl
theorem El:aM Tryz.prog 163=true:=by kernel_rfl
theorem GQ:aM Tryz.prog 165=true:=by kernel_rfl
theorem Bm:aM Tryz.prog 198=true:=by kernel_rfl
theorem GV:aM Tryz.prog 273=true:=by kernel_rfl
theorem C7:eE Tryz.prog 122 0=some 0:=by kernel_rfl
theorem C8:eE Tryz.prog 122 1=some 2:=by kernel_rfl
theorem C9:eE Tryz.prog 122 2=some 3:=by kernel_rfl
theorem Df:eE Tryz.prog 146 0=some 0:=by kernel_rfl
theorem Dg:eE Tryz.prog 146 1=some 1:=by kernel_rfl
theorem Dh:eE Tryz.prog 146 2=some 4:=by kernel_rfl
theorem Di:eE Tryz.prog 173 0=some 0:=by kernel_rfl
theorem Dj:eE Tryz.prog 173 1=some 1:=by kernel_rfl
theorem Dk:eE Tryz.prog 173 2=some 2:=by kernel_rfl
theorem Ho:yM Tryz.prog 146=some [(0,1),(1,3),(4,1),(5,1)]:=by kernel_rfl
theorem sC:yM Tryz.prog 173=some [(0,1),(1,1),(2,2)]:=by kernel_rfl
theorem Cp:lR Tryz.prog 167=some 181:=by kernel_rfl
theorem HC:mT Tryz.prog 173=some (true,4):=by kernel_rfl
theorem I1:mT Tryz.prog 65=some (false,1):=by kernel_rfl
theorem HO:jQ Tryz.prog 146=some [.slice none 0 0,.int .i64 0,.slice none 0 0,.slice none 0 0,.map none,.map none]:=by kernel_rfl
theorem mw:jQ Tryz.prog 173=some [.bool false,.string (ByteArray.mk #[]),.int .i64 0,.string (ByteArray.mk #[])]:=by kernel_rfl
theorem EC:ED Tryz.prog 9=some (.string (ByteArray.mk #[])):=by kernel_rfl
end
section
open Go.RowKit
theorem GC:aM Tryz.prog 111=true:=by kernel_rfl
theorem Eb:aM Tryz.prog 133=true:=by kernel_rfl
theorem Ec:aM Tryz.prog 134=true:=by kernel_rfl
theorem Ed:aM Tryz.prog 135=true:=by kernel_rfl
theorem Ee:aM Tryz.prog 136=true:=by kernel_rfl
theorem zH:aM Tryz.prog 137=true:=by kernel_rfl
theorem GL:aM Tryz.prog 138=true:=by kernel_rfl
theorem Ef:aM Tryz.prog 140=true:=by kernel_rfl
theorem GN:aM Tryz.prog 153=true:=by kernel_rfl
theorem GO:aM Tryz.prog 154=true:=by kernel_rfl
theorem Iy:aM Tryz.prog 78=true:=by kernel_rfl
theorem ET:aM Tryz.prog 79=true:=by kernel_rfl
theorem Iz:aM Tryz.prog 80=true:=by kernel_rfl
theorem Dl:eE Tryz.prog 181 0=some 0:=by kernel_rfl
theorem Dm:eE Tryz.prog 181 1=some 2:=by kernel_rfl
theorem B3:yM Tryz.prog 122=some [(0,2),(2,1),(3,1),(4,1),(5,1)]:=by kernel_rfl
theorem yz:mT Tryz.prog 181=some (true,4):=by kernel_rfl
end
section
open Go.RowKit
theorem GE:aM Tryz.prog 113=true:=by kernel_rfl
theorem Bj:aM Tryz.prog 114=true:=by kernel_rfl
theorem G3:aM Tryz.prog 82=true:=by kernel_rfl
theorem IA:aM Tryz.prog 83=true:=by kernel_rfl
theorem IB:aM Tryz.prog 84=true:=by kernel_rfl
end
section
open Go.RowKit
structure aC where
  S:aj
  B:ah
  Busy:(List (ae×Bool))
  Ran:(List ae)
  E:Int
theorem GF:aM Tryz.prog 116=true:=by kernel_rfl
theorem GG:aM Tryz.prog 117=true:=by kernel_rfl
theorem GM:aM Tryz.prog 139=true:=by kernel_rfl
theorem EU:aM Tryz.prog 85=true:=by kernel_rfl
theorem Da:eE Tryz.prog 128 0=some 0:=by kernel_rfl
theorem Db:eE Tryz.prog 128 1=some 1:=by kernel_rfl
theorem Dc:eE Tryz.prog 128 2=some 4:=by kernel_rfl
theorem Dd:eE Tryz.prog 128 3=some 5:=by kernel_rfl
theorem De:eE Tryz.prog 128 4=some 6:=by kernel_rfl
theorem B4:yM Tryz.prog 128=some [(0,1),(1,3),(4,1),(5,1),(6,1)]:=by kernel_rfl
theorem Ew:mT Tryz.prog 117=some (false,1):=by kernel_rfl
theorem HB:mT Tryz.prog 126=some (false,1):=by kernel_rfl
theorem HE:mT Tryz.prog 40=some (false,1):=by kernel_rfl
theorem CG:jQ Tryz.prog 128=some [.pointer none,.int .i64 0,.slice none 0 0,.slice none 0 0,.map none,.slice none 0 0,.int .i64 0]:=by kernel_rfl
end
section
open Go.RowKit
theorem CU:aM Tryz.prog 15=true:=by kernel_rfl
theorem H4:aM Tryz.prog 22=true:=by kernel_rfl
theorem GT:aM Tryz.prog 23=true:=by kernel_rfl
theorem H5:aM Tryz.prog 24=true:=by kernel_rfl
theorem EO:aM Tryz.prog 47=true:=by kernel_rfl
theorem EP:aM Tryz.prog 48=true:=by kernel_rfl
theorem If:aM Tryz.prog 49=true:=by kernel_rfl
theorem Ig:aM Tryz.prog 50=true:=by kernel_rfl
theorem Ih:aM Tryz.prog 51=true:=by kernel_rfl
theorem Ii:aM Tryz.prog 52=true:=by kernel_rfl
end
section
open Go.RowKit
theorem CT:aM Tryz.prog 10=true:=by kernel_rfl
theorem Bl:aM Tryz.prog 19=true:=by kernel_rfl
theorem HU:aM Tryz.prog 7=true:=by kernel_rfl
theorem Em:aM Tryz.prog 8=true:=by kernel_rfl
theorem HV:aM Tryz.prog 9=true:=by kernel_rfl
end
section
open Go.RowKit
class rj (P:Program) (t:TypeId) (b:outParam Bool) (z:outParam Nat):Prop where
  h:mT P t=some (b,z)
class nK (P:Program) (s:TypeId) (f:Nat) (k:outParam Nat):Prop where
  h:eE P s f=some k
class A5 (P:Program) (t:TypeId) (e:outParam TypeId):Prop where
  h:lR P t=some e
class EG (P:Program) (t:TypeId) (u:outParam TypeDesc):Prop where
  h:P.underlying t=some u
theorem fD {D:List bW} {r:bW} (h:∃ i:Nat,D[i]? = some r:=by first | exact ⟨0,rfl⟩ | exact ⟨1,rfl⟩ | exact ⟨2,rfl⟩ | exact ⟨3,rfl⟩ | exact ⟨4,rfl⟩ | exact ⟨5,rfl⟩ | exact ⟨6,rfl⟩ | exact ⟨7,rfl⟩ | exact ⟨8,rfl⟩ | exact ⟨9,rfl⟩ | exact ⟨10,rfl⟩ | exact ⟨11,rfl⟩ | exact ⟨12,rfl⟩ | exact ⟨13,rfl⟩ | exact ⟨14,rfl⟩ | exact ⟨15,rfl⟩ | exact ⟨16,rfl⟩ | exact ⟨17,rfl⟩ | exact ⟨18,rfl⟩ | exact ⟨19,rfl⟩ | exact ⟨20,rfl⟩ | exact ⟨21,rfl⟩ | exact ⟨22,rfl⟩ | exact ⟨23,rfl⟩ | exact ⟨24,rfl⟩ | exact ⟨25,rfl⟩ | exact ⟨26,rfl⟩ | exact ⟨27,rfl⟩ | exact ⟨28,rfl⟩ | exact ⟨29,rfl⟩):∃ i:Nat,D[i]? = some r:=h
theorem fR {D:List cx} {r:cx} (h:∃ i:Nat,D[i]? = some r:=by first | exact ⟨0,rfl⟩ | exact ⟨1,rfl⟩ | exact ⟨2,rfl⟩ | exact ⟨3,rfl⟩ | exact ⟨4,rfl⟩ | exact ⟨5,rfl⟩ | exact ⟨6,rfl⟩ | exact ⟨7,rfl⟩ | exact ⟨8,rfl⟩ | exact ⟨9,rfl⟩ | exact ⟨10,rfl⟩ | exact ⟨11,rfl⟩ | exact ⟨12,rfl⟩ | exact ⟨13,rfl⟩ | exact ⟨14,rfl⟩ | exact ⟨15,rfl⟩ | exact ⟨16,rfl⟩ | exact ⟨17,rfl⟩ | exact ⟨18,rfl⟩ | exact ⟨19,rfl⟩ | exact ⟨20,rfl⟩ | exact ⟨21,rfl⟩ | exact ⟨22,rfl⟩ | exact ⟨23,rfl⟩ | exact ⟨24,rfl⟩ | exact ⟨25,rfl⟩ | exact ⟨26,rfl⟩ | exact ⟨27,rfl⟩ | exact ⟨28,rfl⟩ | exact ⟨29,rfl⟩):∃ i:Nat,D[i]? = some r:=h
theorem sd (i:Nat) {D:List cx} {r:Option cx} (h:D[i]? = r):D[i]? = r:=h
theorem fI {D:List cx} {r:cx} {i:Nat} (h:D[i]? = some r:=by first | (refine sd 0 ?_; exact rfl) | (refine sd 1 ?_; exact rfl) | (refine sd 2 ?_; exact rfl) | (refine sd 3 ?_; exact rfl) | (refine sd 4 ?_; exact rfl) | (refine sd 5 ?_; exact rfl) | (refine sd 6 ?_; exact rfl) | (refine sd 7 ?_; exact rfl) | (refine sd 8 ?_; exact rfl) | (refine sd 9 ?_; exact rfl) | (refine sd 10 ?_; exact rfl) | (refine sd 11 ?_; exact rfl) | (refine sd 12 ?_; exact rfl) | (refine sd 13 ?_; exact rfl) | (refine sd 14 ?_; exact rfl) | (refine sd 15 ?_; exact rfl) | (refine sd 16 ?_; exact rfl) | (refine sd 17 ?_; exact rfl) | (refine sd 18 ?_; exact rfl) | (refine sd 19 ?_; exact rfl) | (refine sd 20 ?_; exact rfl) | (refine sd 21 ?_; exact rfl) | (refine sd 22 ?_; exact rfl) | (refine sd 23 ?_; exact rfl) | (refine sd 24 ?_; exact rfl) | (refine sd 25 ?_; exact rfl) | (refine sd 26 ?_; exact rfl) | (refine sd 27 ?_; exact rfl) | (refine sd 28 ?_; exact rfl) | (refine sd 29 ?_; exact rfl)):D[i]? = some r:=h
theorem kn {c b:Bool} (h:c=b:=by first | assumption | exact rfl | exact nt (by assumption) | exact nf (by assumption)):c=b:=h
def Tk (Z o:Nat) (cs us:List Value):Prop:=(cs.drop o).take Z=us∧us.length=Z
def Cl (Z:Nat) (v:Value) (us:List Value):Prop:=v.cells.toList=us∧us.length=Z
theorem JB {o:Nat} {cs:List Value} {v0:Value} (h:(cs.drop o).take 1=[v0]):Tk 1 o cs [v0]:=⟨h,rfl⟩
theorem Jb {v v0:Value} (h:v.cells.toList=[v0]):Cl 1 v [v0]:=⟨h,rfl⟩
theorem JC {o:Nat} {cs:List Value} {v0 v1:Value} (h:(cs.drop o).take 2=[v0,v1]):Tk 2 o cs [v0,v1]:=⟨h,rfl⟩
theorem Bo {v v0 v1:Value} (h:v.cells.toList=[v0,v1]):Cl 2 v [v0,v1]:=⟨h,rfl⟩
theorem JD {o:Nat} {cs:List Value} {v0 v1 v2:Value} (h:(cs.drop o).take 3=[v0,v1,v2]):Tk 3 o cs [v0,v1,v2]:=⟨h,rfl⟩
theorem oW {v v0 v1 v2:Value} (h:v.cells.toList=[v0,v1,v2]):Cl 3 v [v0,v1,v2]:=⟨h,rfl⟩
theorem JE {o:Nat} {cs:List Value} {v0 v1 v2 v3:Value} (h:(cs.drop o).take 4=[v0,v1,v2,v3]):Tk 4 o cs [v0,v1,v2,v3]:=⟨h,rfl⟩
theorem tH {v v0 v1 v2 v3:Value} (h:v.cells.toList=[v0,v1,v2,v3]):Cl 4 v [v0,v1,v2,v3]:=⟨h,rfl⟩
theorem JF {o:Nat} {cs:List Value} {v0 v1 v2 v3 v4:Value} (h:(cs.drop o).take 5=[v0,v1,v2,v3,v4]):Tk 5 o cs [v0,v1,v2,v3,v4]:=⟨h,rfl⟩
theorem wP {v v0 v1 v2 v3 v4:Value} (h:v.cells.toList=[v0,v1,v2,v3,v4]):Cl 5 v [v0,v1,v2,v3,v4]:=⟨h,rfl⟩
theorem JG {o:Nat} {cs:List Value} {v0 v1 v2 v3 v4 v5:Value} (h:(cs.drop o).take 6=[v0,v1,v2,v3,v4,v5]):Tk 6 o cs [v0,v1,v2,v3,v4,v5]:=⟨h,rfl⟩
theorem xD {v v0 v1 v2 v3 v4 v5:Value} (h:v.cells.toList=[v0,v1,v2,v3,v4,v5]):Cl 6 v [v0,v1,v2,v3,v4,v5]:=⟨h,rfl⟩
theorem JH {o:Nat} {cs:List Value} {v0 v1 v2 v3 v4 v5 v6:Value} (h:(cs.drop o).take 7=[v0,v1,v2,v3,v4,v5,v6]):Tk 7 o cs [v0,v1,v2,v3,v4,v5,v6]:=⟨h,rfl⟩
theorem yZ {v v0 v1 v2 v3 v4 v5 v6:Value} (h:v.cells.toList=[v0,v1,v2,v3,v4,v5,v6]):Cl 7 v [v0,v1,v2,v3,v4,v5,v6]:=⟨h,rfl⟩
theorem JI {o:Nat} {cs:List Value} {v0 v1 v2 v3 v4 v5 v6 v7:Value} (h:(cs.drop o).take 8=[v0,v1,v2,v3,v4,v5,v6,v7]):Tk 8 o cs [v0,v1,v2,v3,v4,v5,v6,v7]:=⟨h,rfl⟩
theorem s3 {v v0 v1 v2 v3 v4 v5 v6 v7:Value} (h:v.cells.toList=[v0,v1,v2,v3,v4,v5,v6,v7]):Cl 8 v [v0,v1,v2,v3,v4,v5,v6,v7]:=⟨h,rfl⟩
theorem JJ {o:Nat} {cs:List Value} {v0 v1 v2 v3 v4 v5 v6 v7 v8:Value} (h:(cs.drop o).take 9=[v0,v1,v2,v3,v4,v5,v6,v7,v8]):Tk 9 o cs [v0,v1,v2,v3,v4,v5,v6,v7,v8]:=⟨h,rfl⟩
theorem EV {v v0 v1 v2 v3 v4 v5 v6 v7 v8:Value} (h:v.cells.toList=[v0,v1,v2,v3,v4,v5,v6,v7,v8]):Cl 9 v [v0,v1,v2,v3,v4,v5,v6,v7,v8]:=⟨h,rfl⟩
theorem IU {o:Nat} {cs:List Value} {v0 v1 v2 v3 v4 v5 v6 v7 v8 v9:Value} (h:(cs.drop o).take 10=[v0,v1,v2,v3,v4,v5,v6,v7,v8,v9]):Tk 10 o cs [v0,v1,v2,v3,v4,v5,v6,v7,v8,v9]:=⟨h,rfl⟩
theorem oa {v v0 v1 v2 v3 v4 v5 v6 v7 v8 v9:Value} (h:v.cells.toList=[v0,v1,v2,v3,v4,v5,v6,v7,v8,v9]):Cl 10 v [v0,v1,v2,v3,v4,v5,v6,v7,v8,v9]:=⟨h,rfl⟩
theorem IV {o:Nat} {cs:List Value} {v0 v1 v2 v3 v4 v5 v6 v7 v8 v9 v10:Value} (h:(cs.drop o).take 11=[v0,v1,v2,v3,v4,v5,v6,v7,v8,v9,v10]):Tk 11 o cs [v0,v1,v2,v3,v4,v5,v6,v7,v8,v9,v10]:=⟨h,rfl⟩
theorem IK {v v0 v1 v2 v3 v4 v5 v6 v7 v8 v9 v10:Value} (h:v.cells.toList=[v0,v1,v2,v3,v4,v5,v6,v7,v8,v9,v10]):Cl 11 v [v0,v1,v2,v3,v4,v5,v6,v7,v8,v9,v10]:=⟨h,rfl⟩
theorem IW {o:Nat} {cs:List Value} {v0 v1 v2 v3 v4 v5 v6 v7 v8 v9 v10 v11:Value} (h:(cs.drop o).take 12=[v0,v1,v2,v3,v4,v5,v6,v7,v8,v9,v10,v11]):Tk 12 o cs [v0,v1,v2,v3,v4,v5,v6,v7,v8,v9,v10,v11]:=⟨h,rfl⟩
theorem pI {v v0 v1 v2 v3 v4 v5 v6 v7 v8 v9 v10 v11:Value} (h:v.cells.toList=[v0,v1,v2,v3,v4,v5,v6,v7,v8,v9,v10,v11]):Cl 12 v [v0,v1,v2,v3,v4,v5,v6,v7,v8,v9,v10,v11]:=⟨h,rfl⟩
theorem Jj {Z o:Nat} {cs us:List Value} (h:Tk Z o cs us:=by first | ((with_reducible apply JB); exact rfl) | ((with_reducible apply JC); exact rfl) | ((with_reducible apply JD); exact rfl) | ((with_reducible apply JE); exact rfl) | ((with_reducible apply JF); exact rfl) | ((with_reducible apply JG); exact rfl) | ((with_reducible apply JH); exact rfl) | ((with_reducible apply JI); exact rfl) | ((with_reducible apply JJ); exact rfl) | ((with_reducible apply IU); exact rfl) | ((with_reducible apply IV); exact rfl) | ((with_reducible apply IW); exact rfl)):Tk Z o cs us:=h
theorem IQ {W:World} {M T:Nat→Prop} {n:Nat} {G:List (Nat×Value)} {D:List cx} {F:List bW} {v:Value} {a:Act} {w:World} {e:TypeId} {sz:Nat} {cl:List Value} (hS:St W M T n G D F a w) (h:∃ i:Nat,D[i]? = some (.own v e sz cl)):v.oneCell'=true:=gN (hS.own _ (List.mem_of_getElem? h.choose_spec)).1
theorem IR {W:World} {M T:Nat→Prop} {n:Nat} {G:List (Nat×Value)} {D:List cx} {F:List bW} {v:Value} {a:Act} {w:World} {α:Type} {R:aR α} {xs:List α} (hS:St W M T n G D F a w) (h:∃ i:Nat,F[i]? = some (aJ R v xs)):v.oneCell'=true:=aB.one (hS.get h.choose h.choose_spec:aB R _ _ _ _)
theorem Hm {v:Value} (h:v.oneCell'=true:=by first | exact rfl | exact IQ hS fR | exact IR hS fD):v.oneCell'=true:=h
theorem Gm {Z:Nat} {v:Value} {us:List Value} (h:Cl Z v us:=by first | ((with_reducible apply Jb); exact rfl) | ((with_reducible apply Bo); exact rfl) | ((with_reducible apply oW); exact rfl) | ((with_reducible apply tH); exact rfl) | ((with_reducible apply wP); exact rfl) | ((with_reducible apply xD); exact rfl) | ((with_reducible apply yZ); exact rfl) | ((with_reducible apply s3); exact rfl) | ((with_reducible apply EV); exact rfl) | ((with_reducible apply oa); exact rfl) | ((with_reducible apply IK); exact rfl) | ((with_reducible apply pI); exact rfl) | ((with_reducible apply Jb); exact lO Hm)):Cl Z v us:=h
theorem Hl {us:List Value} (h:∀ u ∈ us,u.oneCell'=true:=by repeat (first | exact on | refine oc Hm ?_)):∀ u ∈ us,u.oneCell'=true:=h
def SQ (P:Program) (z:Code) (Q:Exit→Act→World→Prop):Exit→Act→World→Prop:=Exit.then (z.wp P Q) Q
section
variable {P:Program} {W:World} {M T:Nat→Prop} {n:Nat} {F:List bW}
def Yv (P:Program) (W:World) (M T:Nat→Prop) (n:Nat) (G:List (Nat×Value)) (D:List cx) (F:List bW) (E:Nat→Prop) (op:Op) (v:Value):Prop :=
  ∀ a w d ty pos af g,St W M T n G D F a w→Ye P ⟨d,op,ty,pos,af,g⟩ a E w v
section
variable {G:List (Nat×Value)} {D:List cx} {E:Nat→Prop} {x y z:Operand} {v:Value} {t t' s:TypeId}
theorem Yv.mv (hx:ev G x=some v):Yv P W M T n G D F E (.move x) v:=fun _ _ _ _ _ _ _ hS=>CF hS hx
theorem Yv.as (hx:ev G x=some v):Yv P W M T n G D F E (.assign x) v:=fun _ _ _ _ _ _ _ hS=>yI hS hx
theorem Yv.bi {op:BinOp} {k:IntKind} {p q:Int} (hx:ev G x=some (.int k p)) (hy:ev G y=some (.int k q)) (hv:Fz op k p q=some v):Yv P W M T n G D F E (.binOp op t x y t') v:=fun _ _ _ _ _ _ _ hS=>yK hS hx hy hv
theorem Yv.bs {op:BinOp} {p q:ByteArray} (hx:ev G x=some (.string p)) (hy:ev G y=some (.string q)) (hv:Gc op p q=some v):Yv P W M T n G D F E (.binOp op t x y t') v:=fun _ _ _ _ _ _ _ hS=>HN hS hx hy hv
theorem Yv.no {b:Bool} (hx:ev G x=some (.bool b)):Yv P W M T n G D F E (.unOp .not t x) (.bool !b):=fun _ _ _ _ _ _ _ hS=>HJ hS hx
theorem Yv.ng {k:IntKind} {p:Int} (hx:ev G x=some (.int k p)):Yv P W M T n G D F E (.unOp .neg t x) (.int k (k.wrap (0 - p))):=fun _ _ _ _ _ _ _ hS=>HH hS hx
theorem Yv.ex {i:Nat} {vs:Array Value} (hx:ev G x=some (.tuple vs)) (hv:vs[i]? = some v):Yv P W M T n G D F E (.extract x i) v:=fun _ _ _ _ _ _ _ hS=>I3 hS hx hv
theorem Yv.nl {p:Addr} (hx:ev G x=some (.pointer (some p))):Yv P W M T n G D F E (.nilCheck x) (.pointer (some p)):=fun _ _ _ _ _ _ _ hS=>HI hS hx
theorem Yv.fl {f k b o:Nat} [c:nK P s f k] (hx:ev G x=some (.pointer (some ⟨b,o,none⟩))):Yv P W M T n G D F E (.fieldAddr s x f) (.pointer (some ⟨b,o + k,none⟩)):=fun _ _ _ _ _ _ _ hS=>yJ hS hx c.h
theorem Yv.pt {b:Bool} (hz:ev G z=some (.bool b)) (hb:b=true) (hx:ev G x=some v):Yv P W M T n G D F E (.pick z x y) v:=fun _ _ _ _ _ _ _ hS=>DU hS hz hb hx
theorem Yv.pf {b:Bool} (hz:ev G z=some (.bool b)) (hb:b=false) (hy:ev G y=some v):Yv P W M T n G D F E (.pick z x y) v:=fun _ _ _ _ _ _ _ hS=>DT hS hz hb hy
theorem Yv.cv {k k' ks:IntKind} {p:Int} [hs:EG P s (.int ks)] [ht:EG P t (.int k')] (hx:ev G x=some (.int k p)):Yv P W M T n G D F E (.convert s t x) (.int k' (k'.wrap p)):=fun _ _ _ _ _ _ _ hS=>Gj hS hx hs.h ht.h
theorem Yv.ls {p:ByteArray} [ht:EG P t .string] (hx:ev G x=some (.string p)):Yv P W M T n G D F E (.call { callee:=.builtin .len,args:=#[x],argTypes:=#[t] }) (.int .i64 p.size):=fun _ _ _ _ _ _ _ hS=>Gk hS ht.h hx
theorem Yv.ll {e:TypeId} {α:Type} {R:aR α} {xs:List α} [ht:A5 P t e] (hx:ev G x=some v) (hF:∃ i:Nat,F[i]? = some (aJ R v xs)):Yv P W M T n G D F E (.call { callee:=.builtin .len,args:=#[x],argTypes:=#[t] }) (.int .i64 xs.length):=fun _ _ _ _ _ _ _ hS=>EA hS ht.h hx hF.choose hF.choose_spec
theorem Yv.lo {e e':TypeId} {cl:List Value} {α:Type} {R:aR α} {xs:List α} [ht:A5 P t e] (hx:ev G x=some v) (hD:∃ j:Nat,D[j]? = some (.own v e' R.size cl)) (hF:∃ i:Nat,F[i]? = some (am R cl xs)):Yv P W M T n G D F E (.call { callee:=.builtin .len,args:=#[x],argTypes:=#[t] }) (.int .i64 xs.length):=fun _ _ _ _ _ _ _ hS=>CD hS ht.h hx hD.choose hD.choose_spec hF.choose hF.choose_spec
theorem Yv.la {Z b o:Nat} {cs us:List Value} {bt:TypeId} [c:rj P t true Z] (hx:ev G x=some (.pointer (some ⟨b,o,none⟩))) (hD:∃ i:Nat,D[i]? = some (.box b cs bt)) (hE:¬ E b) (hu:Tk Z o cs us):Yv P W M T n G D F E (.load t x) (.agg us.toArray):=fun _ _ _ _ _ _ _ hS=>dV hS hx c.h hD.choose hD.choose_spec hE hu.1 hu.2 (fun h=>by cases h)
theorem Yv.l1 {b o:Nat} {cs:List Value} {bt:TypeId} [c:rj P t false 1] (hx:ev G x=some (.pointer (some ⟨b,o,none⟩))) (hD:∃ i:Nat,D[i]? = some (.box b cs bt)) (hE:¬ E b) (hu:(cs.drop o).take 1=[v]):Yv P W M T n G D F E (.load t x) v:=fun _ _ _ _ _ _ _ hS=>dV (us:=[v]) hS hx c.h hD.choose hD.choose_spec hE hu rfl (fun _=>rfl)
theorem Yv.ca {Z b o k p:Nat} {cs us:List Value} [c:rj P t true Z] (hx:ev G x=some (.pointer (some ⟨b,p,none⟩))) (hF:∃ i:Nat,F[i]? = some (lN b o cs)) (hp:o + k=p) (hE:∀ a w,St W M T n G D F a w→∀ j,E j→dT T D j∨w.heap.size≤j) (hu:Tk Z k cs us):Yv P W M T n G D F E (.load t x) (.agg us.toArray):=fun a w _ _ _ _ _ hS=>by
  subst hp
  exact sY hS c.h hF.choose hF.choose_spec hx (hE a w hS) hu.1 hu.2 (fun h=>by cases h)
theorem Yv.c1 {b o k p:Nat} {cs:List Value} [c:rj P t false 1] (hx:ev G x=some (.pointer (some ⟨b,p,none⟩))) (hF:∃ i:Nat,F[i]? = some (lN b o cs)) (hp:o + k=p) (hE:∀ a w,St W M T n G D F a w→∀ j,E j→dT T D j∨w.heap.size≤j) (hu:(cs.drop k).take 1=[v]):Yv P W M T n G D F E (.load t x) v:=fun a w _ _ _ _ _ hS=>by
  subst hp
  exact sY (us:=[v]) hS c.h hF.choose hF.choose_spec hx (hE a w hS) hu rfl (fun _=>rfl)
theorem Jc {ops:Array Oper} {mods:List (Nat×Tn)} {ls:Array Bool} {i k:Nat} (h:rem ops mods ls i=[]:=by first | exact rfl | kernel_rfl):¬ Eo (rem ops mods ls i) k:=by rw [h]; exact bE
theorem Jd {ops:Array Oper} {mods:List (Nat×Tn)} {ls:Array Bool} {i:Nat} (h:rem ops mods ls i=[]:=by first | exact rfl | kernel_rfl):∀ a w,St W M T n G D F a w→∀ j,Eo (rem ops mods ls i) j→dT T D j∨w.heap.size≤j:=by rw [h]; exact fun _ _ _=>y5
theorem Yv.e {d:Option Nat} {ty:TypeId} {pos:String} {af:Array Edge} {g:Option (Nat×Bool)} {op:Op} {a:Act} {w:World} (h:Yv P W M T n G D F E op v) (hS:St W M T n G D F a w):Ye P ⟨d,op,ty,pos,af,g⟩ a E w v:=h a w d ty pos af g hS
theorem yA {op:Op} (h:Yv P W M T n G D F E op v:=by
  first
    | ((with_reducible apply Yv.mv); exact rfl)
    | ((with_reducible apply Yv.bi); exact rfl; exact rfl; exact rfl)
    | ((with_reducible apply Yv.as); exact rfl)
    | ((with_reducible apply Yv.fl); exact rfl)
    | ((with_reducible apply Yv.l1); exact rfl; exact fR; (first | exact id | exact Jc); exact rfl)
    | ((with_reducible apply Yv.la); exact rfl; exact fR; (first | exact id | exact Jc); exact Jj)
    | ((with_reducible apply Yv.c1); exact rfl; exact fD; (first | exact Nat.add_zero _ | exact rfl | exact (Nat.add_assoc _ _ _).symm); (first | exact (fun _ _ _ _ h=>h.elim) | exact Jd); exact rfl)
    | ((with_reducible apply Yv.ca); exact rfl; exact fD; (first | exact Nat.add_zero _ | exact rfl | exact (Nat.add_assoc _ _ _).symm); (first | exact (fun _ _ _ _ h=>h.elim) | exact Jd); exact Jj)
    | ((with_reducible apply Yv.pt); exact rfl; exact kn; exact rfl)
    | ((with_reducible apply Yv.pf); exact rfl; exact kn; exact rfl)
    | ((with_reducible apply Yv.ex); exact rfl; exact rfl)
    | ((with_reducible apply Yv.no); exact rfl)
    | ((with_reducible apply Yv.nl); exact rfl)
    | ((with_reducible apply Yv.bs); exact rfl; exact rfl; exact rfl)
    | ((with_reducible apply Yv.ll); exact rfl; exact fD)
    | ((with_reducible apply Yv.lo); exact rfl; exact fR; exact fD)
    | ((with_reducible apply Yv.ls); exact rfl)
    | ((with_reducible apply Yv.cv); exact rfl)
    | ((with_reducible apply Yv.ng); exact rfl)):Yv P W M T n G D F E op v:=h
end
def Rn (W:World) (M T:Nat→Prop) (n:Nat) (F:List bW) (b:Bool) (G:List (Nat×Value)) (D:List cx) (X:Act→World→Prop) (G':List (Nat×Value)) (D':List cx) (X':Act→World→Prop):Prop :=
  ∀ w,(∀ a w',(b=true→w'=w)→St W M T n G' D' F a w'→X' a w')→∀ a,St W M T n G D F a w→X a w
section
variable {b:Bool} {G G':List (Nat×Value)} {D D':List cx} {X X' K:Act→World→Prop} {Q:Exit→Act→World→Prop} {ops:Array Oper} {l:List Oper} {op:Op} {v:Value} {d j t:Nat} {ty tt:TypeId} {pos:String} {af:Array Edge} {want c:Bool} {x y z:Code} {id:Nat} {u:Operand}
theorem Rn.fin:Rn W M T n F b G D X G D X:=fun w k a hS=>k a w (fun _=>rfl) hS
theorem Rn.yv (h:Yv P W M T n G D F No op v) (hn:Nat.blt d n=true) (k:Rn W M T n F b ((d,v) :: G) D (wpList P ops Q l) G' D' X'):Rn W M T n F b G D (wpList P ops Q (⟨some d,op,ty,pos,af,none⟩ :: l)) G' D' X' :=
  fun w K a hS=>wy hS (h a w _ _ _ _ _ hS) rfl rfl hn fun a hS=>k w K a hS
def Gq (u:Value) (want:Bool) (A B:Prop):Prop:=(∃ c,u = .bool c∧c=want∧A)∨(((∃ c,u = .bool c∧c = !want)∨u=undef)∧B)
theorem IN {A B:Prop} (h:c=want) (k:A):Gq (.bool c) want A B:=.inl ⟨c,rfl,h,k⟩
theorem IM {A B:Prop} (h:c = !want) (k:B):Gq (.bool c) want A B:=.inr ⟨.inl ⟨c,rfl,h⟩,k⟩
theorem ZO {A B:Prop} (k:B):Gq undef want A B:=.inr ⟨.inr rfl,k⟩
theorem zu {o:Oper} {g:Option (Nat×Bool)} {a:Act} {w:World} {rest:List Oper} (h:wpList P ops Q ({ o with guard:=none } :: rest) a w) (hw:Region.wanted { o with guard:=g } (yielded ops a.tmps)=true):wpList P ops Q ({ o with guard:=g } :: rest) a w:=by
  unfold wpList at h ⊢
  rw [if_pos hw]
  rw [if_pos (by simp [Region.wanted])] at h
  exact h
theorem Rn.gd {uv:Value} (hj:(ops[j]?).bind (·.dst)=some t) (ht:lk G t=some uv) (hn:Nat.blt d n=true)
    (k:Gq uv want (Rn W M T n F b G D (wpList P ops Q (⟨some d,op,ty,pos,af,none⟩ :: l)) G' D' X') (Rn W M T n F b ((d,undef) :: G) D (wpList P ops Q l) G' D' X')):Rn W M T n F b G D (wpList P ops Q (⟨some d,op,ty,pos,af,some (j,want)⟩ :: l)) G' D' X':=by
  intro w K a hS
  rcases k with ⟨c,h1,h2,k⟩ | ⟨h1 | h1,k⟩
  · subst h1
    exact zu (o:=⟨some d,op,ty,pos,af,none⟩) (k w K a hS) (by rw [mU hS rfl hj ht,h2]; simp)
  · obtain ⟨c,h1,h2⟩:=h1
    subst h1
    exact wn hS rfl hj ht h2 rfl hn fun a hS=>k w K a hS
  · subst h1
    exact JK hS rfl hj ht rfl hn fun a hS=>k w K a hS
theorem Rn.st {ag:Bool} {Z bb o:Nat} {cs us:List Value} {bt:TypeId} {xx yy:Operand} [ct:rj P tt ag Z] {i:Nat} (hx:ev G xx=some (.pointer (some ⟨bb,o,none⟩))) (hi:D[i]? = some (.box bb cs bt)) (hy:ev G yy=some v)
    (h1:∀ a w,St W M T n G D F a w→Cl Z v us) (h2:∀ a w,St W M T n G D F a w→∀ u ∈ us,u.oneCell'=true) (hl:Nat.ble (o + Z) cs.length=true) (k:Rn W M T n F false G (D.set i (.box bb (lK cs o us) bt)) (wpList P ops Q l) G' D' X'):Rn W M T n F false G D (wpList P ops Q (⟨none,.store tt xx yy,ty,pos,af,none⟩ :: l)) G' D' X' :=
  fun w K a hS=>wl rfl (pL hS hx hy (h1 a w hS).1 ct.h i hi (h1 a w hS).2 hl (h2 a w hS) fun w hk hS=>k w (fun a w' _ hS=>K a w' (fun h=>by cases h) hS) _ hS)
theorem aw {a:Act} {w:World} (h:x.wp P (SQ P z Q) a w):(Code.seq x z).wp P Q a w:=wp_seq h
theorem Rn.rq (hg:(l.all fun o=>o.guard.isNone)=true) (k:Rn W M T n F b G D (wpList P l.toArray (SQ P z Q) l) G' D' X'):Rn W M T n F b G D (Code.wp P (Code.seq (Code.region id l.toArray false) z) Q) G' D' X':=fun w K a hS=>wp_seq (wp_region_lit (k w K a hS))
theorem jO {l:List Oper} {a:Act} {w:World} (h:wpList P l.toArray (SQ P z Q) l a w):(Code.seq (Code.region id l.toArray false) z).wp P Q a w:=wp_seq (wp_region_lit h)
theorem Rn.rl (k:Rn W M T n F b G D (wpList P l.toArray Q l) G' D' X'):Rn W M T n F b G D (Code.wp P (Code.region id l.toArray false) Q) G' D' X':=fun w K a hS=>wp_region_lit (k w K a hS)
theorem Rn.rz (k:Rn W M T n F b G D (Q .normal) G' D' X'):Rn W M T n F b G D (wpList P ops Q []) G' D' X':=fun w K a hS=>wpList_nil (k w K a hS)
theorem Rn.sq (k:Rn W M T n F b G D (z.wp P Q) G' D' X'):Rn W M T n F b G D (SQ P z Q .normal) G' D' X':=k
theorem Rn.th (k:Rn W M T n F b G D (K) G' D' X'):Rn W M T n F b G D (Exit.then K Q .normal) G' D' X':=k
theorem Rn.ib (k:Rn W M T n F b G D (Q .normal) G' D' X'):Rn W M T n F b G D (Exit.inBlock id Q .normal) G' D' X':=k
theorem Rn.sk (k:Rn W M T n F b G D (Q .normal) G' D' X'):Rn W M T n F b G D (Code.wp P .skip Q) G' D' X':=fun w K a hS=>wp_skip (k w K a hS)
theorem Rn.bl (k:Rn W M T n F b G D (x.wp P (Exit.inBlock id Q)) G' D' X'):Rn W M T n F b G D (Code.wp P (.block id x) Q) G' D' X':=fun w K a hS=>wp_block (k w K a hS)
theorem Rn.ct (hu:ev G u=some (.bool c)) (hc:c=true) (k:Rn W M T n F b G D (x.wp P Q) G' D' X'):Rn W M T n F b G D (Code.wp P (.cond u x y) Q) G' D' X':=fun w K a hS=>Ja hS hu hc (k w K a hS)
theorem Rn.cf (hu:ev G u=some (.bool c)) (hc:c=false) (k:Rn W M T n F b G D (y.wp P Q) G' D' X'):Rn W M T n F b G D (Code.wp P (.cond u x y) Q) G' D' X':=fun w K a hS=>H3 hS hu hc (k w K a hS)
theorem Rn.xt (k:Rn W M T n F b G D (Q (.exit j)) G' D' X'):Rn W M T n F b G D (Code.wp P (.exit j) Q) G' D' X':=fun w K a hS=>wp_exit (k w K a hS)
theorem Rn.rt (k:Rn W M T n F b G D (Q .ret) G' D' X'):Rn W M T n F b G D (Code.wp P .ret Q) G' D' X':=fun w K a hS=>wp_ret (k w K a hS)
theorem Rn.sqr (k:Rn W M T n F b G D (Q .ret) G' D' X'):Rn W M T n F b G D (SQ P z Q .ret) G' D' X':=k
theorem Rn.sqe (k:Rn W M T n F b G D (Q (.exit j)) G' D' X'):Rn W M T n F b G D (SQ P z Q (.exit j)) G' D' X':=k
theorem Rn.thr (k:Rn W M T n F b G D (Q .ret) G' D' X'):Rn W M T n F b G D (Exit.then K Q .ret) G' D' X':=k
theorem Rn.the (k:Rn W M T n F b G D (Q (.exit j)) G' D' X'):Rn W M T n F b G D (Exit.then K Q (.exit j)) G' D' X':=k
theorem Rn.ibr (k:Rn W M T n F b G D (Q .ret) G' D' X'):Rn W M T n F b G D (Exit.inBlock id Q .ret) G' D' X':=k
theorem Rn.ibt (h:Nat.beq j id=true) (k:Rn W M T n F b G D (Q .normal) G' D' X'):Rn W M T n F b G D (Exit.inBlock id Q (.exit j)) G' D' X':=fun w K a hS=>by
  have h2:=k w K a hS
  simp only [Exit.inBlock]
  rw [if_pos (Nat.eq_of_beq_eq_true h)]; exact h2
theorem Rn.ibf (h:Nat.beq j id=false) (k:Rn W M T n F b G D (Q (.exit j)) G' D' X'):Rn W M T n F b G D (Exit.inBlock id Q (.exit j)) G' D' X':=fun w K a hS=>by
  have h2:=k w K a hS
  simp only [Exit.inBlock]
  rw [if_neg (fun e=>by rw [e] at h; simp at h)]; exact h2
theorem Jr (h:Rn W M T n F b G D X G' D' X':=by
  repeat (first
  | ((with_reducible apply Rn.yv); exact yA; exact rfl)
  | ((with_reducible apply Rn.gd); exact rfl; exact rfl; exact rfl; (first | apply ZO | (apply IN; exact kn; (first | ((with_reducible apply Rn.yv); exact yA; exact rfl) | ((with_reducible apply Rn.st); exact rfl; exact fI; exact rfl; exact (fun a w hS=>Gm); exact (fun a w hS=>Hl); exact rfl))) | (apply IM; exact kn)))
  | ((with_reducible apply Rn.st); exact rfl; exact fI; exact rfl; exact (fun a w hS=>Gm); exact (fun a w hS=>Hl); exact rfl)
  | (with_reducible apply Rn.rz)
  | (with_reducible apply Rn.sq)
  | (with_reducible apply Rn.th)
  | (with_reducible apply Rn.ib)
  | (with_reducible apply Rn.sk)
  | ((with_reducible apply Rn.ct); exact rfl; exact kn)
  | ((with_reducible apply Rn.cf); exact rfl; exact kn))
  exact Rn.fin):Rn W M T n F b G D X G' D' X':=h
theorem I8 (h:Rn W M T n F b G D X G' D' X':=by
  repeat (first
  | ((with_reducible apply Rn.yv); exact yA; exact rfl)
  | ((with_reducible apply Rn.gd); exact rfl; exact rfl; exact rfl; (first | apply ZO | (apply IN; exact kn; (first | ((with_reducible apply Rn.yv); exact yA; exact rfl) | ((with_reducible apply Rn.st); exact rfl; exact fI; exact rfl; exact (fun a w hS=>Gm); exact (fun a w hS=>Hl); exact rfl))) | (apply IM; exact kn)))
  | ((with_reducible apply Rn.st); exact rfl; exact fI; exact rfl; exact (fun a w hS=>Gm); exact (fun a w hS=>Hl); exact rfl)
  | (with_reducible apply Rn.rz)
  | ((with_reducible apply Rn.rq); exact rfl)
  | (with_reducible apply Rn.sq)
  | (with_reducible apply Rn.th)
  | (with_reducible apply Rn.ib)
  | (with_reducible apply Rn.sk)
  | (with_reducible apply Rn.bl)
  | ((with_reducible apply Rn.ct); exact rfl; exact kn)
  | ((with_reducible apply Rn.cf); exact rfl; exact kn)
  | (with_reducible apply Rn.rl)
  | (with_reducible apply Rn.rt)
  | (with_reducible apply Rn.xt)
  | (with_reducible apply Rn.sqr)
  | (with_reducible apply Rn.thr)
  | (with_reducible apply Rn.ibr)
  | (with_reducible apply Rn.sqe)
  | (with_reducible apply Rn.the)
  | ((with_reducible apply Rn.ibt); exact rfl)
  | ((with_reducible apply Rn.ibf); exact rfl))
  exact Rn.fin):Rn W M T n F b G D X G' D' X':=h
def Jf (ops:Array Oper) (listed:Array Bool) (i:Nat):Bool:=Region.free .any ops listed i && (Region.ready .any ops listed).contains i
def Re (P:Program) (ops:Array Oper) (Q:Exit→Act→World→Prop) (mods:List (Nat×Tn)) (W:World) (M T:Nat→Prop) (n:Nat) (D:List cx) (F:List bW) (is:List Nat) (fuel:Nat) (ls:Array Bool) (G:List (Nat×Value)) (fuel':Nat) (ls':Array Bool) (G':List (Nat×Value)):Prop :=
  ∀ a w,Region.noSelect ops=true→Qp Q→St W M T n G D F a w→(∀ a,St W M T n G' D F a w→pF P ops Q mods fuel' ls' a w)→pF P ops Q mods fuel ls a w
section
variable {mods:List (Nat×Tn)} {fuel fuel' i:Nat} {ls ls':Array Bool} {is:List Nat}
theorem Re.en:Re P ops Q mods W M T n D F [] fuel ls G fuel ls G:=fun a w _ _ hS k=>k a hS
theorem Re.va {f:Nat} (hfu:fuel=f + 1) (hi:ops[i]? = some ⟨some d,op,ty,pos,af,none⟩) (h:Yv P W M T n G D F (Eo (rem ops mods ls i)) op v) (hn:Nat.blt d n=true) (hr:Jf ops ls i=true) (k:Re P ops Q mods W M T n D F is f (ls.setIfInBounds i true) ((d,v) :: G) fuel' ls' G'):Re P ops Q mods W M T n D F (i :: is) fuel ls G fuel' ls' G' :=
  fun a w hs hQ hS K=>hfu ▸ dy i hi hs (Bool.and_eq_true_iff.1 hr).1 (Bool.and_eq_true_iff.1 hr).2 rfl hQ hS (h a w _ _ _ _ _ hS) rfl rfl hn fun a hS=>k a w hs hQ hS K
theorem Re.gu {uv:Value} {f:Nat} (hfu:fuel=f + 1) (hi:ops[i]? = some ⟨some d,op,ty,pos,af,some (j,want)⟩) (hj:(ops[j]?).bind (·.dst)=some t) (ht:lk G t=some uv) (hn:Nat.blt d n=true) (hr:Jf ops ls i=true)
    (k:Gq uv want (∃ v,Yv P W M T n G D F (Eo (rem ops mods ls i)) op v∧Re P ops Q mods W M T n D F is f (ls.setIfInBounds i true) ((d,v) :: G) fuel' ls' G') (Re P ops Q mods W M T n D F is f (ls.setIfInBounds i true) ((d,undef) :: G) fuel' ls' G')):Re P ops Q mods W M T n D F (i :: is) fuel ls G fuel' ls' G':=by
  intro a w hs hQ hS K
  subst hfu
  have h1:=Bool.and_eq_true_iff.1 hr
  rcases k with ⟨c,e1,e2,v,h,k⟩ | ⟨e1 | e1,k⟩
  · subst e1
    exact we i hi hs h1.1 h1.2 rfl hQ hS (h a w _ _ _ _ _ hS) rfl hj ht e2 rfl hn fun a hS=>k a w hs hQ hS K
  · obtain ⟨c,e1,e2⟩:=e1
    subst e1
    exact Ju i hi hs h1.1 h1.2 hQ hS rfl hj ht e2 rfl hn fun a hS=>k a w hs hQ hS K
  · subst e1
    exact IL i hi hs h1.1 h1.2 hQ hS rfl hj ht rfl hn fun a hS=>k a w hs hQ hS K
theorem gE (is:List Nat) {a:Act} {w:World} (hS:St W M T n G D F a w) (k:∀ a,St W M T n G' D F a w→pF P ops Q mods fuel' ls' a w) (h:Re P ops Q mods W M T n D F is fuel ls G fuel' ls' G':=by
  repeat (first
  | ((with_reducible apply Re.va); exact rfl; exact rfl; exact yA; exact rfl; kernel_rfl)
  | ((with_reducible apply Re.gu); exact rfl; exact rfl; exact rfl; exact rfl; exact rfl; kernel_rfl; (first | apply ZO | (apply IN; exact kn; refine ⟨_,yA,?_⟩) | (apply IM; exact kn))))
  exact Re.en) (hs:Region.noSelect ops=true:=by kernel_rfl) (hQ:Qp Q:=by assumption):pF P ops Q mods fuel ls a w:=h a w hs hQ hS k
end
def vC (F:List bW):List Nat→List bW→Prop
  | _,[]=>True
  | [],_ :: _=>False
  | j :: js,f :: F'=>F[j]? = some f∧vC F js F'
theorem vC.to {F:List bW}:∀ {js:List Nat} {F':List bW},vC F js F'→yR F F'
  | _,[],_=>trivial
  | [],_ :: _,h=>h.elim
  | j :: js,f :: F',h=>⟨⟨j,h.1⟩,h.2.to⟩
theorem JA {F:List bW}:vC F [] []:=trivial
theorem Jz {F F':List bW} {j:Nat} {js:List Nat} {f:bW} (h:F[j]? = some f) (k:vC F js F'):vC F (j :: js) (f :: F'):=⟨h,k⟩
theorem Ji {F F':List bW} {js:List Nat} (h:vC F js F':=by repeat (first | exact JA | (apply Jz; exact rfl))):vC F js F':=h
theorem Jh:lI D [] []:=trivial
theorem Jg {i:Nat} {is:List Nat} {r:cx} (h:D[i]? = some r) (k:lI D is D'):lI D (i :: is) (r :: D'):=⟨h,k⟩
theorem Hz {is:List Nat} (h:lI D is D':=by repeat (first | exact Jh | (apply Jg; exact rfl))):lI D is D':=h
theorem lI.app:∀ {is js:List Nat} {D0 D1:List cx},lI D is D0→lI D js D1→lI D (is ++ js) (D0 ++ D1)
  | [],_,[],_,_,k=>k
  | [],_,_ :: _,_,h,_=>h.elim
  | _ :: _,_,[],_,h,_=>h.elim
  | _ :: _,_,_ :: _,_,h,k=>⟨h.1,lI.app h.2 k⟩
section
variable {F':List bW} {a:Act} {w:World} {D0 D1:List cx} {α β:Type} {R:aR α} {R2:aR β} {xs:List α} {ys:List β} {vv v2:Value} {cl Bo:List Value} {e e2:TypeId}
theorem St.mt (h:St W M T n G D F a w) (is js:List Nat) (hG:DY G G':=by repeat (first | exact trivial | refine ⟨rfl,?_⟩)) (hD:lI D is D':=by exact Hz) (hF:vC F js F':=by exact Ji) (hn:is.Nodup:=by decide):St W M T n G' D' F' a w:=h.meet is hn hG hD hF.to
theorem St.sl (h:St W M T n G D F a w) (is js:List Nat) (hD:lI D is D':=by exact Hz) (hF:vC F js F':=by exact Ji) (hn:is.Nodup:=by decide):St W M T n [] D' F' a w:=h.meet is hn trivial hD hF.to
theorem St.rd (h:St W M T n G D F a w) (is:List Nat) (hD:lI D is D':=by exact Hz) (hn:is.Nodup:=by decide):St W M T n G D' F a w:=h.reD is hn hD
theorem St.re (h:St W M T n G D F a w) (is js:List Nat) (h0:lI D is D0:=by exact Hz) (h1:lI D js D1:=by exact Hz) (hn:(is ++ js).Nodup:=by decide):St W M T n G (D0 ++ D1) F a w:=h.reD (is ++ js) hn (h0.app h1)
theorem St.fS (h:St W M T n G D F a w) (k:aB R (dT T D) w vv xs):St W M T n G D (aJ R vv xs :: F) a w:=h.fact (aJ R vv xs) k
theorem St.fR (h:St W M T n G D F a w) (k:aD R (dT T D) w cl xs):St W M T n G D (am R cl xs :: F) a w:=h.fact (am R cl xs) k
theorem St.fM {κ ν:Type} {RK:aR κ} {ak:Bool} {RV:aR ν} {av:Bool} {es:Array MapEntry} {ms:List (κ×ν)} (h:St W M T n G D F a w) (k:bw RK ak RV av (dT T D) w es ms):St W M T n G D (mB RK ak RV av es ms :: F) a w:=h.fact (mB RK ak RV av es ms) k
theorem bM {w':World} (hA:∀ rs:List cx,(∀ r ∈ rs,r.ok w'∧∀ k,r.dom k→w.heap.size≤k)→(rs.Pairwise fun r s=>∀ k,r.dom k→¬ s.dom k)→St W M T n G (rs ++ D) F a w'):St W M T n G D F a w':=hA [] (fun r hr=>by cases hr) List.Pairwise.nil
theorem pd {w':World} (hA:∀ rs:List cx,(∀ r ∈ rs,r.ok w'∧∀ k,r.dom k→w.heap.size≤k)→(rs.Pairwise fun r s=>∀ k,r.dom k→¬ s.dom k)→St W M T n G (rs ++ D) F a w') (h:iy R (dT T D) w w' [.own vv e R.size cl] e vv cl xs) (h0:0 < R.size:=by decide):St W M T n G ([.own vv e R.size cl] ++ D) (am R cl xs :: F) a w' :=
  (hA [.own vv e R.size cl] (gS ⟨h.1,h0⟩ h.2.1) (s4 _)).fact (am R cl xs) (h.2.2.keep (Kt.refl _ _) (jk _))
theorem sZ {w':World} (hA:∀ rs:List cx,(∀ r ∈ rs,r.ok w'∧∀ k,r.dom k→w.heap.size≤k)→(rs.Pairwise fun r s=>∀ k,r.dom k→¬ s.dom k)→St W M T n G (rs ++ D) F a w') (h:iy R (dT T D) w w' [.own vv e R.size cl,.own v2 e2 R2.size Bo] e vv cl xs) (k:iy R2 (dT T D) w w' [.own vv e R.size cl,.own v2 e2 R2.size Bo] e2 v2 Bo ys) (hp:∀ k,vv.ownBlock=some k→v2.ownBlock ≠ some k) (h0:0 < R.size:=by decide) (k0:0 < R2.size:=by decide):St W M T n G ([.own vv e R.size cl,.own v2 e2 R2.size Bo] ++ D) (am R2 Bo ys :: am R cl xs :: F) a w' :=
  ((hA [.own vv e R.size cl,.own v2 e2 R2.size Bo] (Gw ⟨h.1,h0⟩ h.2.1 ⟨k.1,k0⟩ k.2.1) (Jx hp)).fact (am R cl xs) (h.2.2.keep (Kt.refl _ _) (jk _))).fact (am R2 Bo ys) (k.2.2.keep (Kt.refl _ _) (jk _))
theorem Jy {is:List Nat} (h:lI D is D':=by repeat (first | exact Jh | (apply Jg; exact fI))):lI D is D':=h
theorem St.mtS {is:List Nat} (h:St W M T n G D F a w) (hG:DY G G':=by repeat (first | exact trivial | refine ⟨rfl,?_⟩)) (hD:lI D is D':=by exact Jy) (hF:yR F F':=by repeat (first | exact trivial | refine ⟨fD,?_⟩)) (hn:is.Nodup:=by decide):St W M T n G' D' F' a w:=h.meet is hn hG hD hF
end
theorem lo {S R Y:Type} {u r:R} {f:Fl S R} {k:R→Option Y} {y:Y} (hM:some (Fl.out u)=some f) (hf:∀ u,f = .out u→u=r) (hk:k r=some y):k u=some y:=by
  rw [hf u (Option.some.inj hM).symm]; exact hk
theorem Hj {S R Y S2:Type} {s:S2} {r:Fl S2 R} {f:Fl S (Fl S2 R)} {p:S2→Option Y} {q:R→Option Y} {y:Y} (hM:some (Fl.out (Fl.go s))=some f) (hf:∀ u,f = .out u→u=r) (hk:Fl.el r p q=some y):p s=some y:=by
  have h:=hf _ (Option.some.inj hM).symm
  subst h; exact hk
theorem Er {S R Y S2:Type} {s:R} {r:Fl S2 R} {f:Fl S (Fl S2 R)} {p:S2→Option Y} {q:R→Option Y} {y:Y} (hM:some (Fl.out (Fl.out s))=some f) (hf:∀ u,f = .out u→u=r) (hk:Fl.el r p q=some y):q s=some y:=by
  have h:=hf _ (Option.some.inj hM).symm
  subst h; exact hk
theorem cd {α:Type} {b:Bool} {x y r:α} (h:cond b x y=r):(b=true∧x=r)∨(b=false∧y=r):=by cases b <;> simp_all
theorem go {a:Act} {w:World} (hS:St W M T n G D F a w) (k:∀ a w,St W M T n G' D' F a w→X' a w) (h:Rn W M T n F false G D X G' D' X':=by exact I8):X a w:=h w (fun a w' _ hS=>k a w' hS) a hS
theorem Hd {a:Act} {w:World} (hS:St W M T n G D F a w) (k:∀ a,St W M T n G' D' F a w→X' a w) (h:Rn W M T n F true G D X G' D' X':=by exact Jr):X a w:=h w (fun a w' e hS=>by cases e rfl; exact k a hS) a hS
theorem ai {a:Act} {w:World} (hS:St W M T n G D F a w) (k:∀ a,St W M T n G' D' F a w→X' a w) (h:Rn W M T n F true G D X G' D' X':=by exact I8):X a w:=h w (fun a w' e hS=>by cases e rfl; exact k a hS) a hS
section
variable {a:Act} {w:World} {E:Nat→Prop} {o:Oper} {fuel:Nat} {ls:Array Bool} {mods:List (Nat×Tn)} {cs us:List Value} {ag:Bool} {Z bb off:Nat} {bt e:TypeId} {xx yy X Y:Operand} {g:Option (Nat×Bool)} {args:Array Operand} {tys:Array TypeId} {f:Nat} {vs:List Value} {R:Value→World→Prop} {fn:Func}
theorem en {c:Code} {W0:World} {av:List Value} (hf:P.funcs[f]? = some fn) (hn:fn.ntmps=n) (hT:∀ k,T k→k < W0.heap.size) (h:∀ a,St W0 M T n (kq 0 av) [] [] a W0→c.wp P (bodyPost P fn (Gv M W0 R)) a W0) (hb:fn.body=some c:=by rfl) (hl:Nat.ble av.length n=true:=by rfl):aY P M f av W0 R:=enter hf hb T n hn hT hl h
theorem ka (hS:St W M T n G D F a w) (hz:jQ P tt=some cs) (k:∀ b,w.heap.size≤b→∀ a w',Kt No w w'→St W M T n ((d,.pointer (some ⟨b,0,none⟩)) :: G) (.box b cs tt :: D) F a w'→wpList P ops Q l a w') (hn:Nat.blt d n=true:=by rfl):wpList P ops Q (⟨some d,.alloc tt,ty,pos,af,none⟩ :: l) a w:=wl rfl (cE hS hz hn k)
theorem kb (hS:St W M T n G D F a w) (k:∀ b,w.heap.size≤b→∀ a w',Kt No w w'→St W M T n ((d,.pointer (some ⟨b,0,none⟩)) :: G) (.box b cs tt :: D) F a w'→wpList P ops Q l a w') (hx:ev G X=some v:=by rfl) (hv:Cl Z v cs:=by exact Gm) (hn:Nat.blt d n=true:=by rfl):wpList P ops Q (⟨some d,.box tt X,ty,pos,af,none⟩ :: l) a w:=wl rfl (zM hS hx hv.1 hn k)
theorem kc (hS:St W M T n G D F a w) (hf:aM P f=true) (hc:aY P No f vs w R)
    (k:∀ v w',R v w'→∀ a,Kt No w w'→(∀ rs:List cx,(∀ r ∈ rs,r.ok w'∧∀ k,r.dom k→w.heap.size≤k)→(rs.Pairwise fun r s=>∀ k,r.dom k→¬ s.dom k)→St W M T n ((d,v) :: G) (rs ++ D) F a w')→wpList P ops Q l a w') (hargs:evs G args.toList=some vs:=by rfl) (hn:Nat.blt d n=true:=by rfl):wpList P ops Q (⟨some d,.call { callee:=.value (.func f),args:=args,argTypes:=tys },ty,pos,af,none⟩ :: l) a w:=wl rfl (a7 hS hf hargs hn hc k)
theorem e1 (i:Nat) (h:oJ P o a w (fun a' w'=>DX mods i w w'∧pF P ops Q mods fuel (ls.setIfInBounds i true) a' w')) (hi:ops[i]? = some o:=by rfl) (hr:Region.ready .any ops ls=[i]:=by kernel_rfl) (hg:o.guard=none:=by rfl):pF P ops Q mods (fuel + 1) ls a w:=p8 hi hr hg h
theorem ec (i:Nat) (hS:St W M T n G D F a w) (hf:aM P f=true) (hc:aY P No f vs w R)
    (k:∀ v w',R v w'→∀ a,Kt No w w'→(∀ rs:List cx,(∀ r ∈ rs,r.ok w'∧∀ k,r.dom k→w.heap.size≤k)→(rs.Pairwise fun r s=>∀ k,r.dom k→¬ s.dom k)→St W M T n ((d,v) :: G) (rs ++ D) F a w')→pF P ops Q mods fuel (ls.setIfInBounds i true) a w') (hi:ops[i]? = some ⟨some d,.call { callee:=.value (.func f),args:=args,argTypes:=tys },ty,pos,af,none⟩:=by rfl) (hr:Region.ready .any ops ls=[i]:=by kernel_rfl) (hargs:evs G args.toList=some vs:=by rfl) (hn:Nat.blt d n=true:=by rfl):pF P ops Q mods (fuel + 1) ls a w :=
  p8 hi hr rfl (a7 hS hf hargs hn hc fun v w' hR a hk hA=>⟨fx hk,k v w' hR a hk hA⟩)
theorem es (i:Nat) [ct:rj P tt ag Z] {q:Nat} (hS:St W M T n G D F a w) (k:∀ w',St W M T n G (D.set q (.box bb (lK cs off us) bt)) F a w'→pF P ops Q mods fuel (ls.setIfInBounds i true) a w') (hi:ops[i]? = some ⟨none,.store tt xx yy,ty,pos,af,none⟩:=by rfl) (hr:Region.ready .any ops ls=[i]:=by kernel_rfl) (hx:ev G xx=some (.pointer (some ⟨bb,off,none⟩)):=by rfl) (hD:D[q]? = some (.box bb cs bt):=by exact fI) (hy:ev G yy=some v:=by rfl) (h1:Cl Z v us:=by exact Gm) (h2:∀ u ∈ us,u.oneCell'=true:=by exact Hl) (hl:Nat.ble (off + Z) cs.length=true:=by rfl) (hm:rT mods i=[.blk (some bb)]:=by rfl):pF P ops Q mods (fuel + 1) ls a w :=
  p8 hi hr rfl (pL hS hx hy h1.1 ct.h q hD h1.2 hl h2 fun w' hk hS=>⟨kp hm hk iE,k w' hS⟩)
theorem eD (h:Q .normal a w) (hr:Region.ready .any ops ls=[]:=by kernel_rfl):pF P ops Q mods fuel ls a w:=yF hr h fuel
theorem dr {N:Nat} (mods:List (Nat×Tn)) (hS:St W M T n G D F a w) (h:∀ w,Qp Q→St W M T n G D F a w→pF P l.toArray Q mods N (Array.replicate N false) a w) (hm:P.follows .mixedOrders=true:=by exact mixed) (hN:l.length=N:=by rfl) (hQ:Qp Q:=by exact (fun c a d v w h=>by cases d <;> exact h)):(Code.region id l.toArray true).wp P Q a w:=En mods hS hm hN hQ h
theorem rC [ct:rj P tt ag Z] {c:Nat} (i:Nat) (hS:St W M T n G D F a w) (hv:lk G c=some (.pointer (some ⟨bb,0,none⟩)):=by rfl) (hi:D[i]? = some (.box bb cs bt):=by rfl) (hl:cs.length=Z:=by rfl) (hz:ag=false→Z=1:=by first | exact (fun h=>by cases h) | exact fun _=>rfl):rr P a w [.cell c tt] [aW ag cs]:=a8 hS hv i hi ct.h hl hz aH
end
theorem fin {p:Prop} (h:p:=by
  first
  | ((repeat (apply Exists.intro)); exact ⟨hS.mtS,hM⟩)
  | (refine ⟨_,(Option.some.inj hM).symm,?_⟩; (repeat (apply Exists.intro)); exact ⟨rfl,hS.mtS⟩)
  | (cases hM; exact aF hS rfl (ar hS rfl aH) rfl)
  | (have hM:=Hj hM hf1 hMo1; first | ((repeat (apply Exists.intro)); exact ⟨hS.mtS,hM⟩) | (cases hM; exact aF hS rfl (ar hS rfl aH) rfl))
  | (have hM:=Er hM hf1 hMo1; first | ((repeat (apply Exists.intro)); exact ⟨hS.mtS,hM⟩) | (cases hM; exact aF hS rfl (ar hS rfl aH) rfl))
  | (have hM:=lo hM hf1 hMo1; first | ((repeat (apply Exists.intro)); exact ⟨hS.mtS,hM⟩) | (cases hM; exact aF hS rfl (ar hS rfl aH) rfl))
  | (have hM:=Hj hM hf2 hMo2; first | ((repeat (apply Exists.intro)); exact ⟨hS.mtS,hM⟩) | (cases hM; exact aF hS rfl (ar hS rfl aH) rfl))
  | (have hM:=Er hM hf2 hMo2; first | ((repeat (apply Exists.intro)); exact ⟨hS.mtS,hM⟩) | (cases hM; exact aF hS rfl (ar hS rfl aH) rfl))
  | (have hM:=lo hM hf2 hMo2; first | ((repeat (apply Exists.intro)); exact ⟨hS.mtS,hM⟩) | (cases hM; exact aF hS rfl (ar hS rfl aH) rfl))):p:=h
theorem fz {p:Prop} (h:p:=by
  refine go hS fun a w hS=>?_
  repeat' (first | exact fin | (rcases cd hM with ⟨_,hM⟩ | ⟨_,hM⟩ <;> refine go hS fun a w hS=>?_))):p:=h
end
end
end
section
open Go.RowKit
instance:rj Tryz.prog 28 false 1:=⟨IZ⟩
instance:rj Tryz.prog 29 false 1:=⟨I0⟩
instance:rj Tryz.prog 3 false 1:=⟨wI⟩
instance:rj Tryz.prog 31 true 3:=⟨fG⟩
instance:rj Tryz.prog 35 true 2:=⟨fY⟩
instance:rj Tryz.prog 37 true 3:=⟨vU⟩
instance:rj Tryz.prog 4 false 1:=⟨Ge⟩
instance:rj Tryz.prog 49 false 1:=⟨zp⟩
instance:rj Tryz.prog 61 true 4:=⟨qN⟩
instance:rj Tryz.prog 77 true 8:=⟨kQ⟩
instance:rj Tryz.prog 9 false 1:=⟨DM⟩
instance:nK Tryz.prog 31 0 0:=⟨EZ⟩
instance:nK Tryz.prog 31 1 1:=⟨E0⟩
instance:nK Tryz.prog 31 2 2:=⟨E1⟩
instance:nK Tryz.prog 35 0 0:=⟨E2⟩
instance:nK Tryz.prog 35 1 1:=⟨E3⟩
instance:nK Tryz.prog 37 0 0:=⟨E4⟩
instance:nK Tryz.prog 37 1 2:=⟨E5⟩
instance:nK Tryz.prog 61 0 0:=⟨E8⟩
instance:nK Tryz.prog 61 1 2:=⟨E9⟩
instance:nK Tryz.prog 61 2 3:=⟨Fa⟩
instance:nK Tryz.prog 77 0 0:=⟨Fc⟩
instance:nK Tryz.prog 77 1 2:=⟨Fd⟩
instance:nK Tryz.prog 77 2 3:=⟨Fe⟩
instance:nK Tryz.prog 77 3 4:=⟨Ff⟩
instance:nK Tryz.prog 77 4 5:=⟨Fg⟩
instance:nK Tryz.prog 77 5 6:=⟨Fh⟩
instance:nK Tryz.prog 77 6 7:=⟨Fi⟩
instance:A5 Tryz.prog 22 3:=⟨AZ⟩
instance:A5 Tryz.prog 28 61:=⟨ro⟩
instance:A5 Tryz.prog 29 77:=⟨nH⟩
instance:A5 Tryz.prog 43 37:=⟨vT⟩
instance:A5 Tryz.prog 49 35:=⟨nI⟩
instance:rj Tryz.prog 22 false 1:=⟨IX⟩
instance:rj Tryz.prog 79 false 1:=⟨I2⟩
instance:rj Tryz.prog 81 true 4:=⟨sU⟩
instance:rj Tryz.prog 85 true 4:=⟨Gf⟩
instance:nK Tryz.prog 55 0 0:=⟨E6⟩
instance:nK Tryz.prog 55 1 1:=⟨E7⟩
instance:nK Tryz.prog 81 0 0:=⟨Fj⟩
instance:nK Tryz.prog 81 1 1:=⟨Fk⟩
instance:nK Tryz.prog 81 2 2:=⟨Fm⟩
instance:nK Tryz.prog 81 3 3:=⟨Fn⟩
instance:nK Tryz.prog 85 0 0:=⟨Fp⟩
instance:nK Tryz.prog 85 1 1:=⟨Fq⟩
instance:nK Tryz.prog 85 2 2:=⟨Fr⟩
instance:nK Tryz.prog 85 3 3:=⟨Fs⟩
instance:A5 Tryz.prog 27 81:=⟨tx⟩
instance:A5 Tryz.prog 79 85:=⟨Gd⟩
instance:A5 Tryz.prog 98 9:=⟨Cq⟩
instance:rj Tryz.prog 122 true 6:=⟨qM⟩
instance:rj Tryz.prog 27 false 1:=⟨IY⟩
instance:rj Tryz.prog 86 false 1:=⟨HF⟩
instance:rj Tryz.prog 88 true 7:=⟨tB⟩
instance:rj Tryz.prog 98 false 1:=⟨zq⟩
instance:nK Tryz.prog 122 3 4:=⟨wY⟩
instance:nK Tryz.prog 122 4 5:=⟨wZ⟩
instance:nK Tryz.prog 88 0 0:=⟨Ft⟩
instance:nK Tryz.prog 88 1 1:=⟨Fu⟩
instance:nK Tryz.prog 88 2 4:=⟨Fv⟩
instance:nK Tryz.prog 88 3 5:=⟨Fw⟩
instance:nK Tryz.prog 88 4 6:=⟨Fx⟩
instance:A5 Tryz.prog 86 122:=⟨vn⟩
instance:rj Tryz.prog 173 true 4:=⟨HC⟩
instance:rj Tryz.prog 65 false 1:=⟨I1⟩
instance:nK Tryz.prog 122 0 0:=⟨C7⟩
instance:nK Tryz.prog 122 1 2:=⟨C8⟩
instance:nK Tryz.prog 122 2 3:=⟨C9⟩
instance:nK Tryz.prog 146 0 0:=⟨Df⟩
instance:nK Tryz.prog 146 1 1:=⟨Dg⟩
instance:nK Tryz.prog 146 2 4:=⟨Dh⟩
instance:nK Tryz.prog 173 0 0:=⟨Di⟩
instance:nK Tryz.prog 173 1 1:=⟨Dj⟩
instance:nK Tryz.prog 173 2 2:=⟨Dk⟩
instance:A5 Tryz.prog 167 181:=⟨Cp⟩
instance:rj Tryz.prog 181 true 4:=⟨yz⟩
instance:nK Tryz.prog 181 0 0:=⟨Dl⟩
instance:nK Tryz.prog 181 1 2:=⟨Dm⟩
instance:rj Tryz.prog 117 false 1:=⟨Ew⟩
instance:rj Tryz.prog 126 false 1:=⟨HB⟩
instance:rj Tryz.prog 40 false 1:=⟨HE⟩
instance:nK Tryz.prog 128 0 0:=⟨Da⟩
instance:nK Tryz.prog 128 1 1:=⟨Db⟩
instance:nK Tryz.prog 128 2 4:=⟨Dc⟩
instance:nK Tryz.prog 128 3 5:=⟨Dd⟩
instance:nK Tryz.prog 128 4 6:=⟨De⟩
instance:EG Tryz.prog 3 (.int .i64):=⟨Tryz.underlying3⟩
instance:EG Tryz.prog 5 (.int .u8):=⟨Tryz.underlying5⟩
instance:EG Tryz.prog 9 .string:=⟨Tryz.underlying9⟩
instance:EG Tryz.prog 105 (.int .u64):=⟨Tryz.underlying105⟩
abbrev pt (b o:Nat):Value:=.pointer (some ⟨b,o,none⟩)
abbrev om (b:Nat) (e:Array MapEntry) (c:Nat):cx:=.obj b (.map e c)
abbrev TW (T:Nat→Prop) (w:World):Prop:=∀ k,T k→k < w.heap.size
abbrev aS (x:ae):List Value:=[.int .i64 x.Kind,.string x.Text]
abbrev mC (x:aG):List Value:=[.int .i64 x.Key.Kind,.string x.Key.Text,.string x.Value,.int .i64 x.Changed]
abbrev aX (x:al) (v0:Value):List Value:=[.int .i64 x.Key.Kind,.string x.Key.Text,.string x.Value,v0,.int .i64 x.Changed,.int .i64 x.Verified,.int .i64 x.Cost,.bool x.Dirty]
abbrev aO (x:ah) (v0 v1:Value):List Value:=[.int .i64 x.Revision,v0,v1]
abbrev dG (x:aT):List Value:=[.int .i64 x.Key.Kind,.string x.Key.Text,.string x.Value]
abbrev aU (x:aQ) (v0:Value):List Value:=[v0,.int .i64 x.At]
abbrev EJ (x:cI):List Value:=[.bool x.Cell,.bool x.Pick,.int .i64 x.N,.int .i64 x.Else]
abbrev ru (x:aL) (v0:Value):List Value:=[.bool x.Ring,v0,.int .i64 x.Final,.int .i64 x.C]
abbrev kj (x:bc) (v0 v1:Value):List Value:=[.int .i64 x.Key.Kind,.string x.Key.Text,.bool x.Running,.int .i64 x.At,v0,v1]
abbrev rx (x:cJ) (v0 v1 v2 v3 v4 v5:Value):List Value:=[v0,.int .i64 x.Base.Revision,v1,v2,v3,v4,v5]
abbrev yX (x:cy):List Value:=[.int .i64 x.Member.Kind,.string x.Member.Text,.int .i64 x.Read.Kind,.string x.Read.Text]
abbrev D3 (x:na):List Value:=[.bool x.Done,.string x.Value,.int .i64 x.Ask.Kind,.string x.Ask.Text]
abbrev LL:=List (ae×(List ae))
abbrev LB:=List (ae×ByteArray)
abbrev LO:=List (ae×Bool)
abbrev LR:=List al
abbrev LI:=List aG
abbrev LK:=List ae
abbrev LU:=List aL
abbrev LV:=List Value
abbrev AM:=Array MapEntry
abbrev LN:=List Int
abbrev LY:=List ByteArray
abbrev LF:=List bc
abbrev LC:=List aT
abbrev sA (v:Value) (c:List Value):cx:=.own v 85 eb.size c
abbrev fc (v:Value) (c:List Value):cx:=.own v 37 aK.size c
abbrev kT (v:Value) (c:List Value):cx:=.own v 181 fb.size c
abbrev c8 (v:Value) (c:List Value):cx:=.own v 122 an.size c
abbrev aP (v:Value) (c:List Value):cx:=.own v 61 ac.size c
abbrev au (v:Value) (c:List Value):cx:=.own v 35 ad.size c
abbrev aE (v:Value) (c:List Value):cx:=.own v 77 aa.size c
abbrev bJ (v:Value) (c:List Value):cx:=.own v 81 aq.size c
abbrev lL (e:Array MapEntry) (x:List (ae×ByteArray)):bW:=mB ad true aR.str false e x
abbrev oK (e:Array MapEntry) (x:List (ae×(List ae))):bW:=mB ad true (aR.slice ad) false e x
abbrev rE (e:Array MapEntry) (x:List (ae×Bool)):bW:=mB ad true aR.bool false e x
abbrev xS (b:Nat) (v:Value) (r:Int) (v1 v2:Value) (m k:Nat):cx:=.box b [v,.int .i64 r,v1,v2,.map (some m),.map (some k)] 146
abbrev xE (b d:Nat) (r:Int) (v1 v2:Value) (m:Nat) (v3:Value) (e:Int):cx:=.box b [.pointer (some ⟨d,0,none⟩),.int .i64 r,v1,v2,.map (some m),v3,.int .i64 e] 128
end
section
open Go.RowKit
section
variable {P:Program}
theorem nZ (w:World) (t t' ty e:TypeId) (size bytes:Nat) (E:Ah P t e size bytes) (b o dLen dCap:Nat) (sb soff sLen sCap n:Nat) (cs:List Value)
    (hn:n=Nat.min sLen dLen) (hl:cs.length=n * size) (hsrc:∀ j u,cs[j]? = some u→w.cell? ⟨sb,soff + j,none⟩=some u)
    (hc:∀ j,j < cs.length→(w.cell? ⟨b,o + j,none⟩).isSome=true) (hf:∀ j,j < cs.length→w.frozen? ⟨b,o + j,none⟩=false) (h1:∀ u ∈ cs,u.oneCell'=true) :
    (Builtin.copy_ #[t,t'] ty #[.slice (some ⟨b,o,none⟩) dLen dCap,.slice (some ⟨sb,soff,none⟩) sLen sCap]).run P w = .ok (goInt n) (w.setCells b o cs):=by
  obtain ⟨ht,⟨i,z,hi,hz,hsize,hby,hzs⟩,hpos⟩:=E
  subst hsize hn
  have hfc:=run_firstCells_some (P:=P) w i.size (Nat.min sLen dLen) ⟨sb,soff,none⟩ sLen sCap cs hl (fun j u hu=>by rw [Addr.add_lit]; exact hsrc j u hu)
  have hst:=run_storeCells_cells (P:=P) b o cs 0 w (by simpa using hc) (by simpa using hf) h1
  simp only [Nat.add_zero] at hst
  simp [Builtin.copy_,run_underlying ht,Builtin.lenOf,sizeOf,typeInfo,hi,hfc,hst]
theorem tR (w:World) {o:Oper} {a:Act} {K:Act→World→Prop} {Q:Exit→Act→World→Prop} (d s:Operand) (t t':TypeId)
    (ho:o.op = .call { callee:=.builtin .copy,args:=#[d,s],argTypes:=#[t,t'] }) (v u:Value) (hd:a.eval d=v) (hs:a.eval s=u) {v':Value} {w':World}
    (hr:(Builtin.copy_ #[t,t'] o.type #[v,u]).run P w = .ok v' w') (h:K (a.put o.dst v') w'):o.wp P a w K Q:=by
  unfold Oper.wp execOp
  simp only [ho,resolve,invoke,builtin,Sem.run_bind,Sem.run_pure,Result.andThen_ok,List.map_toArray,List.map_cons,List.map_nil,hd,hs,hr]
  exact h
theorem yH (w:World) {ops:Array Oper} {rest:List Oper} {o:Oper} {a:Act} {Q:Exit→Act→World→Prop} (hgd:o.guard=none) (d s:Operand) (t t':TypeId)
    (ho:o.op = .call { callee:=.builtin .copy,args:=#[d,s],argTypes:=#[t,t'] }) (v u:Value) (hd:a.eval d=v) (hs:a.eval s=u) {v':Value} {w':World}
    (hr:(Builtin.copy_ #[t,t'] o.type #[v,u]).run P w = .ok v' w') (h:wpList P ops Q rest (a.put o.dst v') w'):wpList P ops Q (o :: rest) a w :=
  wpList_plain hgd fun _ hK=>tR w d s t t' ho v u hd hs hr (hK _ _ h)
theorem wH {ops:Array Oper} {o:Oper} {a:Act} {w:World} {K:Act→World→Prop} {Q:Exit→Act→World→Prop} {E:Prop}
    (hg:o.guard=none) (d x:Operand) (dT sT:TypeId) (hop:o.op=Op.call { callee:=Callee.builtin Builtin.copy,args:=#[d,x],argTypes:=#[dT,sT] })
    (v u:Value) (hd:a.eval d=v) (hx:a.eval x=u) {v':Value} {w':World} (hr:(Builtin.copy_ #[dT,sT] o.type #[v,u]).run P w = .ok v' w') (hK:K (a.put o.dst v') w') :
    if Region.wanted o (yielded ops a.tmps)=true then Oper.wp P o a w K Q else E:=by
  rw [if_pos (by simp [Region.wanted,hg])]
  exact tR w d x dT sT hop v u hd hx hr hK
theorem vz (w:World) {ops:Array Oper} {rest:List Oper} {o:Oper} {a:Act} {Q:Exit→Act→World→Prop} (hgd:o.guard=none) (d s:Operand) (t t':TypeId)
    (ho:o.op = .call { callee:=.builtin .append,args:=#[d,s],argTypes:=#[t,t'] }) (v u:Value) (hd:a.eval d=v) (hs:a.eval s=u) {v':Value} {w':World}
    (hr:(Builtin.append_ #[t,t'] o.type #[v,u]).run P w = .ok v' w') (h:wpList P ops Q rest (a.put o.dst v') w'):wpList P ops Q (o :: rest) a w :=
  wpList_plain hgd fun _ hK=>by
    unfold Oper.wp execOp
    simp only [ho,resolve,invoke,builtin,Sem.run_bind,Sem.run_pure,Result.andThen_ok,List.map_toArray,List.map_cons,List.map_nil,hd,hs,hr]
    exact hK _ _ h
end
theorem zo {T X D:List Value} {cs c1 c2:Array Value} {off:Nat}
    (h0:∀ j u,T[j]? = some u→cs[off + j]? = some u)
    (hd:∀ j u,D[j]? = some u→c1[off + T.length + X.length + j]? = some u) (h1:∀ j,j < off + T.length→c1[j]? = cs[j]?)
    (hx:∀ j u,X[j]? = some u→c2[off + T.length + j]? = some u) (h2:∀ j,(j < off + T.length∨off + T.length + X.length≤j)→c2[j]? = c1[j]?) :
    ∀ j u,(T ++ X ++ D)[j]? = some u→c2[off + j]? = some u:=by
  intro j u hu
  by_cases hT:j < T.length
  · rw [List.append_assoc,List.getElem?_append_left hT] at hu
    rw [h2 _ (.inl (by omega)),h1 _ (by omega)]
    exact h0 j u hu
  · by_cases hX:j < T.length + X.length
    · rw [List.getElem?_append_left (by rw [List.length_append]; exact hX),List.getElem?_append_right (by omega)] at hu
      have:=hx _ u hu
      rwa [show off + T.length + (j - T.length)=off + j by omega] at this
    · rw [List.getElem?_append_right (by rw [List.length_append]; omega),List.length_append] at hu
      have:=hd _ u hu
      rw [show off + T.length + X.length + (j - (T.length + X.length))=off + j by omega] at this
      rw [h2 _ (.inr (by omega))]
      exact this
theorem yx {T X D:List Value} {cs c1 c2:Array Value} {off:Nat}
    (h0:∀ j u,T[j]? = some u→cs[off + j]? = some u)
    (hx:∀ j u,X[j]? = some u→c1[off + T.length + j]? = some u) (h1:∀ j,(j < off + T.length∨off + T.length + X.length≤j)→c1[j]? = cs[j]?)
    (hd:∀ j u,D[j]? = some u→c2[off + T.length + X.length + j]? = some u) (h2:∀ j,j < off + T.length + X.length→c2[j]? = c1[j]?) :
    ∀ j u,(T ++ X ++ D)[j]? = some u→c2[off + j]? = some u:=by
  intro j u hu
  by_cases hT:j < T.length
  · rw [List.append_assoc,List.getElem?_append_left hT] at hu
    rw [h2 _ (by omega),h1 _ (.inl (by omega))]
    exact h0 j u hu
  · by_cases hX:j < T.length + X.length
    · rw [List.getElem?_append_left (by rw [List.length_append]; exact hX),List.getElem?_append_right (by omega)] at hu
      have:=hx _ u hu
      rw [show off + T.length + (j - T.length)=off + j by omega] at this
      rw [h2 _ (by omega)]
      exact this
    · rw [List.getElem?_append_right (by rw [List.length_append]; omega),List.length_append] at hu
      have:=hd _ u hu
      rwa [show off + T.length + X.length + (j - (T.length + X.length))=off + j by omega] at this
end
section
open Go.RowKit
theorem lh:Ah Tryz.prog 28 61 4 48:=wV (by kernel_rfl:xV Tryz.prog 28=some (61,4,48))
set_option maxHeartbeats 2000000 in
theorem x7 (cl xc:List Value) (n:Nat) (v:Value) (w:World) (hown:jR w 0 61 4 v cl) (hcl:cl.length=n * 4) (hxl:xc.length=4) (hx1:∀ u ∈ xc,u.oneCell'=true) (hn:n≤4294967296)
    (vb:Nat) (hv:w.heap[vb]? = some (.cells xc.toArray 61 (0,0))) :
    Calls Tryz.prog 33 #[v,.int .i64 n,.slice (some ⟨vb,0,none⟩) 1 1] w fun e w' =>
      ∃ v',e = .returned v'∧jR w' 0 61 4 v' (cl ++ xc)∧w.grownBy w' v.ownBlock∧(∀ k,v'.ownBlock=some k→v.ownBlock=some k∨w.heap.size≤k):=by
  obtain ⟨A,m,c,rfl,h1,hnc,hc,hat⟩:=hown.form (by omega)
  obtain rfl:m=n:=by omega
  unfold maxLen at hc
  have hsrc:At w (some ⟨vb,0,none⟩) xc:=.inr ⟨vb,0,rfl,fun j u hu=>by rw [cell_of_row w vb _ _ _ _ hv]; simpa using hu⟩
  have Hsrc:=pq hsrc
  have Hown:=pq hown
  have Hv:=pq hv
  have Hx1:=pq hx1
  clear hsrc hown hv hat hx1
  have hb1:cl.length + xc.length≤35000000000 * 4:=by omega
  cases A with
  | none =>
    go_enter Tryz.func33,Tryz.ntmps33
    go_wp2_with (at_builtin; refine vy _ rfl _ _ 28 rfl _ 4 48 lh 0 (.slice none m c) cl rfl Hown.out _ 1 1 xc rfl (by rw [hxl]) Hsrc.out Hx1.out (by unfold maxLen; omega) (by omega) (Nat.zero_le _) ?_; intro v1 w1 hown1 hg1 hat1)
    all_goals (go_ret; exact ⟨v1,rfl,hown1,hg1,fun k hk=>by rcases hat1 with h | h <;> rw [h] at hk; exact .inl hk; exact .inr (by injection hk with hk; omega)⟩)
  | some a =>
    obtain ⟨ab,ao,asp⟩:=a
    go_enter Tryz.func33,Tryz.ntmps33
    go_wp2_with (at_builtin; refine vy _ rfl _ _ 28 rfl _ 4 48 lh 0 (.slice (some ⟨ab,ao,asp⟩) m c) cl rfl Hown.out _ 1 1 xc rfl (by rw [hxl]) Hsrc.out Hx1.out (by unfold maxLen; omega) (by omega) (Nat.zero_le _) ?_; intro v1 w1 hown1 hg1 hat1)
    all_goals (go_ret; exact ⟨v1,rfl,hown1,hg1,fun k hk=>by rcases hat1 with h | h <;> rw [h] at hk; exact .inl hk; exact .inr (by injection hk with hk; omega)⟩)
set_option maxHeartbeats 4000000 in
set_option maxRecDepth 100000 in
theorem w9 (cl xc:List Value) (n i g off c:Nat) (cs:Array Value) (fz:Nat×Nat) (w:World) (hi:i < n) (hroom:n + 1≤c) (hc:c≤maxLen) (hl:n≤4294967296) (hcl:cl.length=n * 4) (hxl:xc.length=4) (hx1:∀ u ∈ xc,u.oneCell'=true) (hc1:∀ u ∈ cl,u.oneCell'=true)
    (hg:w.heap[g]? = some (.cells cs 61 fz)) (hfz:fz=(0,0)∨cs.size≤fz.1) (hfit:off + c * 4≤cs.size) (hcs:∀ j u,cl[j]? = some u→cs[off + j]? = some u)
    (vb:Nat) (hv:w.heap[vb]? = some (.cells xc.toArray 61 (0,0))) (hne:vb ≠ g) :
    Calls Tryz.prog 33 #[.slice (some ⟨g,off,none⟩) n c,.int .i64 i,.slice (some ⟨vb,0,none⟩) 1 1] w fun e w' =>
      ∃ v',e = .returned v'∧jR w' 0 61 4 v' (cl.take (i * 4) ++ xc ++ cl.drop (i * 4))∧w.grownBy w' (some g)∧(∀ k,v'.ownBlock=some k→some g=some k∨w.heap.size≤k):=by
  have hc':=hc
  unfold maxLen at hc
  obtain ⟨TT,hT⟩:∃ TT,TT=cl.take (i * 4):=⟨_,rfl⟩
  obtain ⟨DD,hD⟩:∃ DD,DD=cl.drop (i * 4):=⟨_,rfl⟩
  have hTl:TT.length=i * 4:=by rw [hT,List.length_take,hcl]; omega
  have hDl:DD.length=(n - i) * 4:=by rw [hD,List.length_drop,hcl]; omega
  rw [← hT,← hD]
  have hD1:∀ u ∈ DD,u.oneCell'=true:=fun u hu=>hc1 u (by rw [hD] at hu; exact List.mem_of_mem_drop hu)
  have hcell:∀ o,w.cell? ⟨g,o,none⟩=cs[o]?:=fun o=>cell_of_row w g o cs _ _ hg
  obtain ⟨G1,hG1⟩:∃ G,G=w.drew.setCells g (off + (i + 1) * 4) DD:=⟨_,rfl⟩
  obtain ⟨c1,a1,a2,a3,a4⟩:=eV g _ fz DD (off + (i + 1) * 4) w.drew cs hg
  obtain ⟨c2,b1,b2,b3,b4⟩:=eV g _ fz xc (off + i * 4) G1 c1 (by rw [hG1]; exact a1)
  have hv1:G1.heap[vb]? = some (.cells xc.toArray 61 (0,0)):=by rw [hG1,mr _ _ _ _ _ hne]; exact hv
  have hcp1:∀ ty dc sc,(Builtin.copy_ #[28,28] ty #[.slice (some ⟨g,off + (i + 1) * 4,none⟩) (n - i) dc,.slice (some ⟨g,off + i * 4,none⟩) (n + 1 - i) sc]).run Tryz.prog w.drew = .ok (goInt ((n - i:Nat):Int)) G1:=fun ty dc sc=>by
    rw [hG1]
    refine nZ (P:=Tryz.prog) w.drew _ _ ty _ 4 48 lh g (off + (i + 1) * 4) _ dc g (off + i * 4) _ sc _ _ (by simp only [Nat.min_def]; split <;> omega) hDl ?_ ?_ ?_ hD1
    · intro j u hu
      show w.cell? _=_
      rw [hcell,Nat.add_assoc]
      rw [hD,List.getElem?_drop] at hu
      exact hcs _ u hu
    · intro j hj
      show (w.cell? _).isSome=true
      rw [hcell,Array.getElem?_eq_getElem (by omega)]; rfl
    · intro j hj
      show w.frozen? _=false
      exact ul.free ⟨fz,hg,hfz⟩ (by omega)
  have hcp2:∀ ty dc,(Builtin.copy_ #[28,28] ty #[.slice (some ⟨g,off + i * 4,none⟩) (n + 1 - i) dc,.slice (some ⟨vb,0,none⟩) 1 1]).run Tryz.prog G1 = .ok (goInt 1) (G1.setCells g (off + i * 4) xc):=fun ty dc=>by
    have hg1:G1.heap[g]? = some (.cells c1 61 fz):=by rw [hG1]; exact a1
    refine nZ (P:=Tryz.prog) G1 _ _ ty _ 4 48 lh g (off + i * 4) _ dc vb 0 1 1 1 xc (by simp only [Nat.min_def]; split <;> omega) (by rw [hxl]) ?_ ?_ ?_ hx1
    · intro j u hu
      rw [cell_of_row _ vb _ _ _ _ hv1]
      simpa using hu
    · intro j hj
      rw [cell_of_row _ g _ _ _ _ hg1,Array.getElem?_eq_getElem (by omega)]; rfl
    · intro j hj
      exact ul.free ⟨fz,hg1,by rw [a2]; exact hfz⟩ (by omega)
  have hov:∀ lb cb,(callFunc 63 #[.slice (some ⟨vb,0,none⟩) 1 1,.slice (some ⟨g,off + (i + 1) * 4,none⟩) lb cb]).run Tryz.prog w = .ok (.value (.bool false)) w:=fun lb cb=>by
    rw [run_callFunc_extern Tryz.func63 (by kernel_rfl) (by kernel_rfl) (by kernel_rfl) (e:=Extern.SlicesOverlaps.overlaps #[28,28] #[4]) (by kernel_rfl),
      Lib.run_overlaps_apart w 28 4 61 Tryz.underlying28 4 (fun _=>by kernel_rfl) ⟨vb,0,none⟩ ⟨g,off + (i + 1) * 4,none⟩ 1 1 lb cb hne 61 61 4 cs.size
        (by simp [World.shape?,hv,hxl]) (by simp [World.shape?,hg]) (by omega) (by simp [World.frozen?,hv]) (by simp [World.frozen?,hv])]
    rfl
  have hz2:¬ ((i:Int)=(n:Int)):=by omega
  have hw1:IntKind.i64.wrap ((i:Int) + 1)=(i:Int) + 1:=IntWalk.i64_in _ (by omega)
  have hb1:(0:Int)≤(i:Int) + 1:=by omega
  have htn:((i:Int) + 1).toNat=i + 1:=by omega
  have hb2:¬ (c=i + 1):=by omega
  have hb3:(i:Int)≤(n:Int) + 1:=by omega
  have hb4:¬ (c=i):=by omega
  have hin:i≤n:=by omega
  have HT:=pq hT
  have HD:=pq hD
  have Hg:=pq hg
  have Hv:=pq hv
  have Hv1:=pq hv1
  have HTl:=pq hTl
  have HDl:=pq hDl
  have HG1:=pq hG1
  have Ha1:=pq a1
  have Hb1:=pq b1
  have Hc:=pq hcs
  have Ha:=pq a4
  have Hb:=pq b4
  have Ha3:=pq a3
  have Hb3:=pq b3
  have Ha2:=pq a2
  have Hb2:=pq b2
  have Hcl:=pq hcl
  have Hxl:=pq hxl
  have Hfz:=pq hfz
  clear hT hD hg hv hv1 hTl hDl hG1 a1 b1 hcs a4 b4 a3 b3 hcell a2 b2 hcl hxl hfz hx1 hc1 hD1
  go_enter Tryz.func33,Tryz.ntmps33
  go_wp2_with (simp only [hov])
  go_region_law (refine wH rfl _ _ 28 28 rfl _ _ (by simp [Act.eval,Act.put]) (by simp [Act.eval,Act.put]) (hcp1 _ _ _) ?_)
  go_wp2_with (at_builtin; refine yH _ rfl _ _ 28 28 rfl _ _ rfl rfl (hcp2 _ _) ?_)
  go_ret
  have eT:=HTl.out
  have eD:=HDl.out
  have eX:=Hxl.out
  refine ⟨_,rfl,.inr ⟨g,off,n + 1,c,c2,rfl,?_,Nat.zero_le _,⟨fz,Hb1.out,by rw [Hb2.out,Ha2.out]; exact Hfz.out⟩,hroom,hc',by rw [Hb2.out,Ha2.out]; exact hfit,?_⟩,?_,fun k hk=>.inl hk⟩
  · rw [List.length_append,List.length_append,eT,eD,eX]; omega
  · refine zo (cs:=cs) (c1:=c1) (fun j u hu=>?_) (fun j u hu=>?_) (fun j hj=>?_) (fun j u hu=>?_) (fun j hj=>?_)
    · rw [HT.out,List.getElem?_take] at hu
      split at hu
      · exact Hc.out j u hu
      · cases hu
    · have:=Ha.out (by omega) j u hu
      rwa [show off + (i + 1) * 4 + j=off + TT.length + xc.length + j by rw [eT,eX]; omega] at this
    · exact Ha3.out j (.inl (by rw [eT] at hj; omega))
    · have:=Hb.out (by rw [eX,Ha2.out]; omega) j u hu
      rwa [← eT] at this
    · refine Hb3.out j ?_
      rw [eT,eX] at hj
      rw [eX]
      omega
  · have e1:=jM w.drew g (off + (i + 1) * 4) DD
    have e2:=jM G1 g (off + i * 4) xc
    rw [← HG1.out] at e1
    exact World.grownBy.trans (a:=w) (b:=G1) ⟨e1.os,e1.tape,e1.output,e1.size,e1.block⟩ e2
set_option maxHeartbeats 4000000 in
set_option maxRecDepth 100000 in
theorem w8 (cl xc:List Value) (n i g off c:Nat) (cs:Array Value) (fz:Nat×Nat) (w:World) (hi:i < n) (hnc:n≤c) (hroom:c < n + 1) (hc:c≤maxLen) (hl:n≤4294967296) (hcl:cl.length=n * 4) (hxl:xc.length=4) (hx1:∀ u ∈ xc,u.oneCell'=true) (hc1:∀ u ∈ cl,u.oneCell'=true)
    (hg:w.heap[g]? = some (.cells cs 61 fz)) (hfit:off + c * 4≤cs.size) (hcs:∀ j u,cl[j]? = some u→cs[off + j]? = some u)
    (vb:Nat) (hv:w.heap[vb]? = some (.cells xc.toArray 61 (0,0))) :
    Calls Tryz.prog 33 #[.slice (some ⟨g,off,none⟩) n c,.int .i64 i,.slice (some ⟨vb,0,none⟩) 1 1] w fun e w' =>
      ∃ v',e = .returned v'∧jR w' 0 61 4 v' (cl.take (i * 4) ++ xc ++ cl.drop (i * 4))∧w.grownBy w' (some g)∧(∀ k,v'.ownBlock=some k→some g=some k∨w.heap.size≤k):=by
  have hc':=hc
  unfold maxLen at hc
  obtain ⟨TT,hT⟩:∃ TT,TT=cl.take (i * 4):=⟨_,rfl⟩
  obtain ⟨DD,hD⟩:∃ DD,DD=cl.drop (i * 4):=⟨_,rfl⟩
  have hTl:TT.length=i * 4:=by rw [hT,List.length_take,hcl]; omega
  have hDl:DD.length=(n - i) * 4:=by rw [hD,List.length_drop,hcl]; omega
  rw [← hT,← hD]
  have hD1:∀ u ∈ DD,u.oneCell'=true:=fun u hu=>hc1 u (by rw [hD] at hu; exact List.mem_of_mem_drop hu)
  have hcell:∀ o,w.cell? ⟨g,o,none⟩=cs[o]?:=fun o=>cell_of_row w g o cs _ _ hg
  have hgl:g < w.heap.size:=(Array.getElem?_eq_some_iff.1 hg).1
  have hvl:vb < w.heap.size:=(Array.getElem?_eq_some_iff.1 hv).1
  obtain ⟨_,⟨i0,z,hi0,hz0,hsize,hby,hzs⟩,_⟩:=lh
  have hold:(Builtin.firstCells i0.size i (.slice (some ⟨g,off,none⟩) i c)).run Tryz.prog w.drew = .ok TT.toArray w.drew:=by
    rw [hsize]
    exact run_firstCells_some w.drew 4 i ⟨g,off,none⟩ i c _ hTl (fun j u hu=>by
      rw [Addr.add_lit]
      show w.cell? _=_
      rw [hcell]
      rw [hT,List.getElem?_take] at hu
      split at hu
      · exact hcs j u hu
      · cases hu)
  have hk:i + (n + 1 - i)=n + 1:=by omega
  obtain ⟨G,hG⟩:∃ G,G=grownCap w (n + 1) c 61:=⟨_,rfl⟩
  obtain ⟨ROW,hROW⟩:∃ ROW:Array Value,ROW=TT.toArray ++ Builtin.zeroCells z.cells (n + 1 - i) ++ Builtin.zeroCells z.cells (G - (n + 1)):=⟨_,rfl⟩
  have hGn:n + 1≤G:=by rw [hG]; exact grownCap_ge w _ _ _
  have hG63:G≤maxLen:=by rw [hG]; exact grownCap_le_maxLen w _ _ _ (by unfold maxLen; omega)
  have hRl:ROW.size=G * 4:=by
    rw [hROW]
    simp only [Array.size_append,List.size_toArray,size_zeroCells,hzs,hTl]
    omega
  have hrz:∀ ty,(Builtin.append_ #[28,3] ty #[.slice (some ⟨g,off,none⟩) i c,.int .i64 ((n:Int) + 1 - (i:Int))]).run Tryz.prog w =
      .ok (.slice (some ⟨w.heap.size,0,none⟩) (n + 1) G) (w.drew.alloc (.cells ROW 61)):=fun ty=>by
    have h:=Lib.run_append_grow_zeros w 28 3 ty 61 i0 z .i64 .i64 Tryz.underlying28 Tryz.underlying3 hi0 hz0 (some ⟨g,off,none⟩) i c _ hold (n + 1 - i) (by omega) (by omega) (by omega) (by omega) (by rw [hby]; omega) (by rw [hby,hk]; exact growslice_fits hroom (by omega))
    rw [hk,← hG,← hROW] at h
    rw [show (n:Int) + 1 - (i:Int)=((n + 1 - i:Nat):Int) by omega]
    exact h
  obtain ⟨W1,hW1⟩:∃ W1,W1=w.drew.alloc (.cells ROW 61):=⟨_,rfl⟩
  have hW1g:W1.heap[w.heap.size]? = some (.cells ROW 61 (0,0)):=by rw [hW1]; exact heap_alloc_new w.drew _
  have hW1o:∀ k,k < w.heap.size→W1.heap[k]? = w.heap[k]?:=fun k hk=>by rw [hW1]; exact Below.heap_alloc w.drew _ k hk
  rw [← hW1] at hrz
  have hcpA:∀ ty dc,(Builtin.copy_ #[28,28] ty #[.slice (some ⟨w.heap.size,i * 4,none⟩) (n + 1 - i) dc,.slice (some ⟨vb,0,none⟩) 1 1]).run Tryz.prog W1 = .ok (goInt 1) (W1.setCells w.heap.size (i * 4) xc):=fun ty dc=>by
    refine nZ (P:=Tryz.prog) W1 _ _ ty _ 4 48 lh w.heap.size (i * 4) _ dc vb 0 1 1 1 xc (by simp only [Nat.min_def]; split <;> omega) (by rw [hxl]) ?_ ?_ ?_ hx1
    · intro j u hu
      rw [cell_of_row _ vb _ _ _ _ ((hW1o vb hvl).trans hv)]
      simpa using hu
    · intro j hj
      rw [cell_of_row _ _ _ _ _ _ hW1g,Array.getElem?_eq_getElem (by omega)]; rfl
    · intro j hj
      simp [World.frozen?,hW1g]
  obtain ⟨c1,a1,a2,a3,a4⟩:=eV w.heap.size _ (0,0) xc (i * 4) W1 ROW hW1g
  obtain ⟨W2,hW2⟩:∃ W2,W2=W1.setCells w.heap.size (i * 4) xc:=⟨_,rfl⟩
  rw [← hW2] at a1 hcpA
  have hcpB:∀ ty dc sc,(Builtin.copy_ #[28,28] ty #[.slice (some ⟨w.heap.size,(i + 1) * 4,none⟩) (n - i) dc,.slice (some ⟨g,off + i * 4,none⟩) (n - i) sc]).run Tryz.prog W2.drew = .ok (goInt ((n - i:Nat):Int)) (W2.drew.setCells w.heap.size ((i + 1) * 4) DD):=fun ty dc sc=>by
    refine nZ (P:=Tryz.prog) W2.drew _ _ ty _ 4 48 lh w.heap.size ((i + 1) * 4) _ dc g (off + i * 4) _ sc _ _ (by simp only [Nat.min_def]; split <;> omega) hDl ?_ ?_ ?_ hD1
    · intro j u hu
      show W2.cell? _=_
      rw [hW2,World.cell?_of_block (a:=⟨g,_,none⟩) (mr _ _ _ W1 g (by omega)),World.cell?_of_block (a:=⟨g,_,none⟩) (hW1o g hgl),hcell,Nat.add_assoc]
      rw [hD,List.getElem?_drop] at hu
      exact hcs _ u hu
    · intro j hj
      show (W2.cell? _).isSome=true
      rw [cell_of_row _ _ _ _ _ _ a1,Array.getElem?_eq_getElem (by omega)]; rfl
    · intro j hj
      show W2.frozen? _=false
      simp [World.frozen?,a1]
  obtain ⟨c2,b1,b2,b3,b4⟩:=eV w.heap.size _ (0,0) DD ((i + 1) * 4) W2.drew c1 a1
  have hz2:¬ ((i:Int)=(n:Int)):=by omega
  have hz3:(c:Int) < (n:Int) + 1:=by omega
  have hw1:IntKind.i64.wrap ((i:Int) + 1)=(i:Int) + 1:=IntWalk.i64_in _ (by omega)
  have hb1:(0:Int)≤(i:Int) + 1:=by omega
  have htn:((i:Int) + 1).toNat=i + 1:=by omega
  have hb3:(i:Int)≤(n:Int) + 1:=by omega
  have hb4:¬ (c=i):=by omega
  have hin:i≤n:=by omega
  have hGi:¬ (G=i):=by omega
  have hGim:¬ (G=i + 1):=by omega
  have hG63':=hG63
  unfold maxLen at hG63
  have HT:=pq hT
  have HD:=pq hD
  have HTl:=pq hTl
  have HDl:=pq hDl
  have Hb1:=pq b1
  have Hc:=pq hcs
  have Ha:=pq a4
  have Hb:=pq b4
  have Ha3:=pq a3
  have Hb3:=pq b3
  have Ha2:=pq a2
  have Hb2:=pq b2
  have HR:=pq hRl
  have HROW:=pq hROW
  have HW1:=pq hW1
  have HW2:=pq hW2
  have Hxl:=pq hxl
  clear hT hD hg hv hTl hDl a1 b1 hcs a4 b4 a3 b3 hcell a2 b2 hRl hROW hW1 hW2 hG hold hk hW1g hW1o hi0 hz0 hsize hby hzs hcl hxl hx1 hc1 hD1
  go_enter Tryz.func33,Tryz.ntmps33
  go_wp2_with (first
    | (at_builtin; refine vz _ rfl _ _ _ _ rfl _ _ rfl rfl (hrz _) ?_)
    | (at_builtin; refine yH _ rfl _ _ 28 28 rfl _ _ rfl rfl (hcpA _ _) ?_))
  go_region_law (refine wH rfl _ _ 28 28 rfl _ _ (by simp [Act.eval,Act.put]) (by simp [Act.eval,Act.put]) (hcpB _ _ _) ?_)
  go_wp2
  go_ret
  have eT:=HTl.out
  have eD:=HDl.out
  have eX:=Hxl.out
  refine ⟨.slice (some ⟨w.heap.size,0,none⟩) (n + 1) G,rfl,.inr ⟨w.heap.size,0,n + 1,G,c2,rfl,?_,Nat.zero_le _,ul.of Hb1.out,hGn,hG63',by rw [Hb2.out,Ha2.out,HR.out]; omega,?_⟩,?_,fun k hk=>.inr (Nat.le_of_eq (Option.some.inj hk))⟩
  · rw [List.length_append,List.length_append,eT,eD,eX]; omega
  · refine yx (cs:=ROW) (c1:=c1) (fun j u hu=>?_) (fun j u hu=>?_) (fun j hj=>?_) (fun j u hu=>?_) (fun j hj=>?_)
    · have hj:=(List.getElem?_eq_some_iff.1 hu).1
      rw [HROW.out,Nat.zero_add,Array.append_assoc,Array.getElem?_append_left (by simpa using hj)]
      simpa using hu
    · have:=Ha.out (by rw [eX,HR.out]; omega) j u hu
      rwa [Nat.zero_add,eT]
    · refine Ha3.out j ?_
      rw [eT,eX] at hj
      rw [eX]
      omega
    · have:=Hb.out (by rw [eD,Ha2.out,HR.out]; omega) j u hu
      rwa [show (i + 1) * 4 + j=0 + TT.length + xc.length + j by rw [eT,eX]; omega] at this
    · exact Hb3.out j (.inl (by rw [eT,eX] at hj; omega))
  · have e0:w.grownBy W1 (some g):=by rw [HW1.out]; exact ⟨rfl,rfl,rfl,by simp,fun k hk _=>Below.heap_alloc w.drew _ k hk⟩
    have e1:=jM W1 w.heap.size (i * 4) xc
    have e2:=jM W2.drew w.heap.size ((i + 1) * 4) DD
    rw [← HW2.out] at e1
    refine ⟨?_,?_,?_,?_,?_⟩
    · exact e2.os.trans (e1.os.trans e0.os)
    · exact e2.tape.trans (e1.tape.trans e0.tape)
    · exact e2.output.trans (e1.output.trans e0.output)
    · exact Nat.le_trans e0.size (Nat.le_trans e1.size e2.size)
    · intro k hk hne
      have hk1:=Nat.lt_of_lt_of_le hk e0.size
      have hk2:=Nat.lt_of_lt_of_le hk1 e1.size
      have hne':some k ≠ some w.heap.size:=fun e=>by injection e; omega
      exact (e2.block k hk2 hne').trans ((e1.block k hk1 hne').trans (e0.block k hk hne))
theorem x6 (cl xc:List Value) (n:Nat) (v:Value) (i:Nat) (w:World) (hown:jR w 0 61 4 v cl) (hcl:cl.length=n * 4) (hxl:xc.length=4) (hx1:∀ u ∈ xc,u.oneCell'=true) (hc1:∀ u ∈ cl,u.oneCell'=true) (hi:i≤n) (hl:n≤4294967296)
    (vb:Nat) (hv:w.heap[vb]? = some (.cells xc.toArray 61 (0,0))) (hne:v.ownBlock ≠ some vb) :
    Calls Tryz.prog 33 #[v,.int .i64 i,.slice (some ⟨vb,0,none⟩) 1 1] w fun e w' =>
      ∃ v',e = .returned v'∧jR w' 0 61 4 v' (cl.take (i * 4) ++ xc ++ cl.drop (i * 4))∧w.grownBy w' v.ownBlock∧(∀ k,v'.ownBlock=some k→v.ownBlock=some k∨w.heap.size≤k):=by
  rcases Nat.lt_or_ge i n with h | h
  · have ho:=hown
    rcases hown with ⟨rfl,h0⟩ | ⟨g,off,m,cap,cs,rfl,h1,hb,hg,hnc,hc,hsz,hcs⟩
    · rw [h0] at hcl
      simp at hcl
      omega
    · obtain rfl:m=n:=by omega
      obtain ⟨fz,hg,hfz⟩:=hg
      have hne':vb ≠ g:=fun e=>hne (by simp [Value.ownBlock,e])
      rcases Nat.lt_or_ge cap (m + 1) with h2 | h2
      · exact w8 cl xc m i g off cap cs fz w h hnc h2 hc hl hcl hxl hx1 hc1 hg hsz hcs vb hv
      · exact w9 cl xc m i g off cap cs fz w h h2 hc hl hcl hxl hx1 hc1 hg hfz hsz hcs vb hv hne'
  · obtain rfl:i=n:=by omega
    have e1:cl.take (i * 4) ++ xc ++ cl.drop (i * 4)=cl ++ xc:=by
      rw [← hcl,List.take_length,List.drop_length,List.append_nil]
    rw [e1]
    exact x7 cl xc i v w hown hcl hxl hx1 hl vb hv
theorem y6 {α:Type} {R:aR α} (hR:R.size=4) (T:Nat→Prop) (W0:World) (v:Value) (cl:List Value) (vb:Nat) (xc:List Value) (xs:List α) (x:α) (i:Int) (hD:vB T W0 [.own v 61 R.size cl,.box vb xc 61]) (hv:aD R (dT T [.own v 61 R.size cl,.box vb xc 61]) W0 cl xs) (hx:R.rel (dT T [.own v 61 R.size cl,.box vb xc 61]) W0 xc x)
    (h0:decide (0≤i)=true) (h1:decide (i≤xs.length)=true) (hr:bG (xs.length + 1)=true):aY Tryz.prog (MD [.own v 61 R.size cl,.box vb xc 61]) 33 [v,.int .i64 i,.slice (some ⟨vb,0,none⟩) 1 1] W0 (fun v' w'=>∃ cl',aD R (dT T [.own v' 61 R.size cl']) w' cl' (xs.take i.toNat ++ x :: xs.drop i.toNat)∧n8 W0 w' [.own v 61 R.size cl,.box vb xc 61] [.own v' 61 R.size cl']):=by
  have h0:=of_decide_eq_true h0
  have h1:=of_decide_eq_true h1
  have hr:=yq hr
  obtain ⟨k,rfl⟩:∃ k:Nat,i=k:=⟨i.toNat,by omega⟩
  have hown:=(hD.own _ List.mem_cons_self).1
  have hbox:W0.heap[vb]? = some (.cells xc.toArray 61 (0,0)):=hD.own (.box vb xc 61) (by simp)
  have hap:=(List.pairwise_cons.1 hD.apart).1 (.box vb xc 61) (by simp)
  have hne:v.ownBlock ≠ some vb:=fun e=>hap vb e rfl
  have hpos:0 < R.size:=by rw [hR]; omega
  have hx1:=hv.cell hpos
  have hcl:=hv.1
  rw [hR] at hown hcl
  refine (x6 cl xc xs.length v k W0 hown hcl (by rw [R.len hx,hR]) (fun u hu=>R.one hx u hu) hx1 (by omega) (by omega) vb hbox hne).mono ?_
  rintro e w' ⟨v',rfl,g1,g2,g3⟩
  have hk:=Kt.grown g2
  have hkM:Kt (MD [.own v 61 R.size cl,.box vb xc 61]) W0 w':=hk.mono fun j hj=>⟨_,List.mem_cons_self,hj⟩
  have hN:n8 W0 w' [.own v 61 R.size cl,.box vb xc 61] [.own v' 61 R.size (cl.take (k * 4) ++ xc ++ cl.drop (k * 4))]:=by
    refine ⟨fun r hr=>?_,fun r hr j hj=>?_,s4 _⟩
    · simp only [List.mem_cons,List.not_mem_nil,or_false] at hr
      subst hr
      refine ⟨?_,hpos⟩
      rw [hR]; exact g1
    · simp only [List.mem_cons,List.not_mem_nil,or_false] at hr
      subst hr
      rcases g3 j hj with h | h
      · exact .inl ⟨_,List.mem_cons_self,h⟩
      · exact .inr h
  refine ⟨v',rfl,hkM,_,?_,hN⟩
  have hlo:=hv.cut (Nat.zero_le k) (by omega:k≤xs.length)
  have hhi:=hv.cut (by omega:k≤xs.length) (Nat.le_refl _)
  have e8:k * R.size=k * 4:=by rw [hR]
  rw [Nat.zero_mul,List.drop_zero,List.drop_zero,e8] at hlo
  rw [List.take_length,List.take_of_length_le (by rw [hv.1]; exact Nat.le_refl _),e8] at hhi
  have h3:=(hlo.append (aD.one_ hx)).append hhi
  rw [show ((k:Int)).toNat=k by omega,show xs.take k ++ x :: xs.drop k=xs.take k ++ [x] ++ xs.drop k by simp]
  refine h3.keep (hkM.mono fun j hj=>.inr hj) fun j hj=>?_
  rcases hj with hj | ⟨r,hr,hj⟩
  · exact .inl (.inl hj)
  · rcases hN.from_ r hr j hj with h | h
    · exact .inl (.inr h)
    · exact .inr h
end
end Go.Proofs.YthefmilamdchiaaGreatDoor
