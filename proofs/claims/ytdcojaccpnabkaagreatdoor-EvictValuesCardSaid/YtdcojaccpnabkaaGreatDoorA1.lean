/- Texts of the proof, joined (1). -/
import Derived.Test.YtdcojaccpnabkaaGreatDoorA0
import Derived.Maps.RangeRun
import Derived.Test.YtdcojaccpnabkaaGreatDoorProg
set_option linter.unusedVariables false
set_option linter.unusedSimpArgs false
set_option linter.unusedSectionVars false
namespace Go.Proofs.YtdcojaccpnabkaaGreatDoor
section
open Go.RowKit
def Je {κ ν:Type} (RK:aR κ) (ak:Bool) (RV:aR ν) (av:Bool) (T:Nat→Prop) (W w:World) (rs:List cc) (b:Nat) (es:Array MapEntry) (ck:Nat) (xs:List (κ×ν)):Prop :=
 w.heap[b]? = some (.map es ck)∧W.heap.size≤b∧bw RK ak RV av (dT T rs) w es xs
theorem CH {W:World} {b:Nat} {o:Obj} (h:W.heap.size≤b):∀ k,cc.dom (.obj b o) k→W.heap.size≤k:=fun k hk=>by
 simp only [cc.dom,cE] at hk; omega
section
variable {κ ν:Type} {P:Program} {W:World} {M T E:Nat→Prop} {n:Nat} {G:List (Nat×Value)} {D rs:List cc} {F:List bG} {a:Act} {w:World}
theorem St.retMap {RK:aR κ} {ak:Bool} {RV:aR ν} {av:Bool} {b ck:Nat} {es:Array MapEntry} {xs:List (κ×ν)} (h:St W No T n G D F a w) (hi:FT D rs) (i:Nat) (hd:D[i]? = some (.obj b (.map es ck))) (j:Nat) (hj:F[j]? = some (nA RK ak RV av es xs)):Je RK ak RV av T W w rs b es ck xs:=by
 have hm:=aH hd;exact⟨h.own _ hm,(h.free _ hm b rfl).2.resolve_left fun h=>h,(h.get j hj:bw RK ak RV av (dT T D) w es xs).keep (aj _ _) fun k hk=>.inl (hi.sub k hk)⟩
end
end
section
open Go.RowKit
variable {pos:String} {af:Array Edge} {g:Option (Nat×Bool)}
def HR {α:Type} (R:aR α):aR (ba ⊕ α) where
 size:=R.size
 rel:=fun T w cs y=>match y with
  | .inl c=>cs=c∧c.length=R.size∧∀ u∈c,u.oneCell'=true
  | .inr x=>R.rel T w cs x
 len:=fun {T w cs y} h=>by
  cases y with
  | inl c=>obtain⟨rfl,h,_⟩:=h; exact h
  | inr x=>exact R.len h
 one:=fun {T w cs y} h=>by
  cases y with
  | inl c=>obtain⟨rfl,_,h⟩:=h; exact h
  | inr x=>exact R.one h
 keep:=fun {T T' w w' cs y} h k n=>by
  cases y with
  | inl c=>exact h
  | inr x=>exact R.keep h k n
def dY {α:Type} (xs:List α) (i:Int) (cs:ba):List (ba ⊕ α):=(xs.map Sum.inr).set i.toNat (Sum.inl cs)
theorem uc {α:Type} {xs:List α} {i:Int} {cs:ba}:(dY xs i cs).length=xs.length:=by unfold dY; simp
section
variable {α:Type} {R:aR α} {P:Program} {W:World} {M T E:Nat→Prop} {n:Nat} {G:List (Nat×Value)} {D rs:List cc} {F:List bG} {a:Act} {w:World} {K:Act→World→Prop} {xs:List α} {i:Int} {x:α} {cs cl:ba}
theorem sF (h:bk xs i=some x) (cs:ba):bk (dY xs i cs) i=some (Sum.inl cs):=by
 obtain⟨q1,q2,q3⟩:=eU h;unfold bk dY;have:=(bD.1 q3).1;rw [if_pos q1,rv,if_pos rfl,if_pos (by simpa using this)]
theorem EF (cs cs':ba):(dY xs i cs).set i.toNat (Sum.inl cs')=dY xs i cs':=by
 unfold dY; rw [List.set_set]
theorem Fj {T:Nat→Prop} (h:az R T w cl xs):az (HR R) T w cl (xs.map Sum.inr):=by
 refine⟨by rw [od]; exact h.1,fun k y hy=>?_⟩;rw [rH] at hy;cases hx:xs[k]? with
 | none=>rw [hx] at hy; cases hy
 | some x =>
  rw [hx] at hy;obtain rfl:=bO hy;exact h.2 k x hx
theorem St.openH (hS:St W M T n G D F a w) (j:Nat) (hj:F[j]? = some (an R cl xs)):St W M T n G D (an (HR R) cl (xs.map Sum.inr)::F) a w:=hS.fact _ (Fj (hS.get j hj))
theorem dd {v:Value} {b o p:Nat} (hS:St W M T n G D F a w) (j:Nat) (hj:F[j]? = some (an (HR R) cl (dY xs i cs))) (ho:FW v b o R.size i p) (hg:bk xs i=some x):∀ k u,cs[k]? = some u→cl[p+k]? = some u:=by
 obtain⟨off,m,c,rfl,rfl,rfl⟩:=ho;obtain⟨q1,q2,q3⟩:=eU (sF hg cs);obtain⟨c2,⟨rfl,_,_⟩,h2⟩:=(hS.get j hj:az (HR R) (dT T D) w cl (dY xs i cs)).2 _ _ q3;exact h2
theorem AC {T:Nat→Prop} (hS:az (HR R) T w cl (dY xs i cs)) (hg:bk xs i=some x):(HR R).rel T w cs (Sum.inl cs):=by
 obtain⟨q1,q2,q3⟩:=eU (sF hg cs);obtain⟨c2,⟨rfl,h1,h2⟩,_⟩:=hS.2 _ _ q3;exact⟨rfl,h1,h2⟩
theorem St.closeH {x':α} (hS:St W M T n G D F a w) (j:Nat) (hj:F[j]? = some (an (HR R) cl (dY xs i cs))) (hr:R.rel (dT T D) w cs x'):St W M T n G D (an R cl (xs.set i.toNat x')::F) a w:=by
 have h:az (HR R) (dT T D) w cl (dY xs i cs):=hS.get j hj;refine hS.fact _ ⟨by rw [List.length_set,← uc (xs:=xs) (i:=i) (cs:=cs)]; exact h.1,fun k y hy=>?_⟩;rw [rv] at hy;by_cases hk:i.toNat=k
 ·subst hk;rw [if_pos rfl] at hy;split at hy
  ·rename_i hl;obtain rfl:=bO hy;obtain⟨c2,⟨rfl,_,_⟩,h2⟩:=h.2 i.toNat (Sum.inl cs) (by unfold dY; rw [rv,if_pos rfl,if_pos (by simpa using hl)]);exact⟨_,hr,h2⟩
  ·cases hy
 ·rw [if_neg hk] at hy;exact h.2 k (Sum.inr y) (by unfold dY; rw [rv,if_neg hk,rH,hy]; rfl)
theorem EI {t ty e:TypeId} {X Y:Operand} {ag:Bool} {z b o k p:Nat} {v u:Value} {us:ba} (hS:St W M T n G D F a w) (hX:ev G X=some (.pointer (some ⟨b,o+k,none⟩))) (hY:ev G Y=some u) (hu:u.cells.toList=us) (ht:mx P t=some (ag,z)) (q:Nat) (hq:D[q]? = some (.own v e R.size cl)) (j:Nat) (hj:F[j]? = some (an (HR R) cl (dY xs i cs))) (ho:FW v b o R.size i p) (hg:bk xs i=some x)
  (hz:us.length=z) (hl:Nat.ble (k+z) cs.length=true) (hone:∀ y∈kT cs k us,y.oneCell'=true)
  (K':∀ cl' w',Kt (fun j=>v.ownBlock=some j) w w'→St W M T n G (D.set q (.own v e R.size cl')) (an (HR R) cl' (dY xs i (kT cs k us))::F) a w'→K a w'):po P ⟨none,.store t X Y,ty,pos,af,g⟩ a w K:=by
 have hr:(HR R).rel (dT T D) w cs (Sum.inl cs):=AC (hS.get j hj) hg;have hlen:(kT cs k us).length=R.size:=by
  have h1:=hr.2.1;have:=oh hl;unfold kT;simp only [cW,il,rJ];omega
 exact fT (R:=HR R) (xs:=dY xs i cs) (x:=Sum.inl cs) (x':=Sum.inl (kT cs k us)) (k:=k) (cs:=cs) (us:=us) hS hX hY hu ht q hq j hj ho (dd hS j hj ho hg) (sF hg cs) hr hz hl ⟨rfl,hlen,hone⟩ fun cl' w' hk hS'=>K' cl' w' hk (by rw [EF] at hS'; exact hS')
end
end
section
open Go.RowKit
structure My {κ β:Type} (RK:aR κ) (ak:Bool) (RI:aR β) (e:TypeId) (T:Nat→Prop) (w:World) (es:Array MapEntry) (ck:Nat) (inn:List rL) (xs:List (κ×List β)):Prop where
 n1:es.size=xs.length
 n2:inn.length=xs.length
 ky:∀ (i:Nat) (m:MapEntry) (x:κ×List β),es[i]? = some m→xs[i]? = some x→∃ c,RK.rel T w c x.1∧m.key=bg ak c
 val:∀ (i:Nat) (m:MapEntry) (o:rL),es[i]? = some m→inn[i]? = some o→m.val=o.v
 row:∀ (i:Nat) (o:rL) (x:κ×List β),inn[i]? = some o→xs[i]? = some x→o.e=e∧o.sz=RI.size∧az RI T w o.cl x.2
 lt:∀ (i:Nat) (m:MapEntry),es[i]? = some m→m.born<ck
 inj:∀ (i j:Nat) (m m':MapEntry),es[i]? = some m→es[j]? = some m'→m.born=m'.born→i=j
structure Mx {κ β:Type} (RK:aR κ) (ak:Bool) (RI:aR β) (e:TypeId) (q:κ→κ→Bool) (T:Nat→Prop) (w:World) (es:Array MapEntry) (ck:Nat) (inn:List rL) (xs0:List (κ×List β)) (key:κ) (s:Int) (p:Nat):Prop where
 n1:es.size=(de q key [] xs0).length
 n2:inn.length=(de q key [] xs0).length
 ky:∀ (i:Nat) (m:MapEntry) (x:κ×List β),es[i]? = some m→(de q key [] xs0)[i]? = some x→∃ c,RK.rel T w c x.1∧m.key=bg ak c
 val:∀ (i:Nat) (m:MapEntry) (o:rL),i≠p→es[i]? = some m→inn[i]? = some o→m.val=o.v
 row:∀ (i:Nat) (o:rL) (x:κ×List β),inn[i]? = some o→(de q key [] xs0)[i]? = some x→o.e=e∧o.sz=RI.size∧az RI T w o.cl x.2
 lt:∀ (i:Nat) (m:MapEntry),es[i]? = some m→m.born<ck
 inj:∀ (i j:Nat) (m m':MapEntry),es[i]? = some m→es[j]? = some m'→m.born=m'.born→i=j
 at_:∃ m,es[p]? = some m∧s=(m.born:Int)
 no:inn[p]? = some (J8 e RI.size)
 it:(de q key [] xs0)[p]? = some (key,[])
 set:∀ ys,(de q key [] xs0).set p (key,ys)=de q key ys xs0
section
variable {κ β:Type} {P:Program} {W:World} {M T E:Nat→Prop} {n:Nat} {G G':List (Nat×Value)} {D D':List cc} {F F':List bG} {a:Act} {w w':World} {K:Act→World→Prop}
variable {kt et:TypeId} {RK:aR κ} {ak:Bool} {RI:aR β} {e:TypeId} {q:κ→κ→Bool} {b ck:Nat} {es:Array MapEntry} {inn:List rL} {xs:List (κ×List β)}
end
end
section
open Go.RowKit
def Jf {κ ν:Type} (RK:aR κ) (ak:Bool) (RV:aR ν) (av:Bool) (T:Nat→Prop) (w:World) (v:Value) (xs:List (κ×ν)):Prop :=
 ∃ b es ck,v = .map (some b)∧¬ T b∧w.heap[b]? = some (.map es ck)∧bw RK ak RV av T w es xs
section
variable {κ ν:Type} {RK:aR κ} {ak:Bool} {RV:aR ν} {av:Bool}
theorem Jf.keep {T T':Nat→Prop} {w w':World} {v:Value} {xs:List (κ×ν)} (h:Jf RK ak RV av T w v xs) (k:Kt T w w') (hn:Nw T T' w):Jf RK ak RV av T' w' v xs:=by
 obtain⟨b,es,ck,h1,h2,h3,h4⟩:=h;have hl:=(sA.1 h3).1;exact⟨b,es,ck,h1,fun ht=>by rcases hn b ht with h | h; exact h2 h; omega,(k.block b hl h2).trans h3,h4.keep k hn⟩
theorem Jf.one {T:Nat→Prop} {w:World} {v:Value} {xs:List (κ×ν)} (h:Jf RK ak RV av T w v xs):v.oneCell'=true:=by obtain⟨b,es,ck,rfl,_⟩:=h; rfl
end
section
variable {κ ν:Type} {P:Program} {W:World} {M T E:Nat→Prop} {n:Nat} {G G':List (Nat×Value)} {D D':List cc} {F F':List bG} {a:Act} {w w':World} {K:Act→World→Prop}
variable {kt et:TypeId} {RK:aR κ} {ak:Bool} {RV:aR ν} {av:Bool} {q:κ→κ→Bool} {b clock:Nat} {es:Array MapEntry} {xs:List (κ×ν)}
end
end
section
open Go.RowKit
def Wt (ops:Array Oper) (G:List (Nat×Value)) (o:Oper):Prop:=o.guard=none∨∃ (j t:Nat) (want c:Bool),o.guard=some (j,want)∧(ops[j]?).bind (·.dst)=some t∧lk G t=some (.bool c)∧c=want
section
variable {P:Program} {ops:Array Oper} {Q:Exit→Act→World→Prop}
theorem Wt.ok {mods:List (Nat×Tn)} {W:World} {M T:Nat→Prop} {n:Nat} {G:List (Nat×Value)} {D:List cc} {F:List bG} {a:Act} {w:World} {o:Oper} (hS:St W M T n G D F a w) (h:Wt ops G o):Region.wanted o (yielded ops a.tmps)=true:=by
 rcases h with h | ⟨j,t,want,c,h1,h2,h3,h4⟩
 ·simp [Region.wanted,h]
 ·rw [m5 hS h1 h2 h3,h4]; simp
end
end
section
open Go.RowKit
theorem Fq {α:Type} {xs:List α} {i:Int} {x:α} (h:bk xs i=some x):xs.set i.toNat x=xs:=by
 obtain⟨_,_,h3⟩:=eU h;obtain⟨h4,h5⟩:=bD.1 h3;rw [← h5]; exact List.set_getElem_self h4
end
section
open Go.RowKit
variable {pos:String} {af:Array Edge} {g:Option (Nat×Bool)}
structure kq (es:Array MapEntry) (ck:Nat):Prop where
  lt:∀ (i:Nat) (m:MapEntry),es[i]? = some m→m.born<ck
  inj:∀ (i j:Nat) (m m':MapEntry),es[i]? = some m→es[j]? = some m'→m.born=m'.born→i=j
theorem kq.nil:kq #[] 0:=⟨fun i m h=>by simp at h,fun i j m m' h=>by simp at h⟩
theorem kq.push {es:Array MapEntry} {ck:Nat} (h:kq es ck) (k v:Value):kq (es.push { key:=k,val:=v,born:=ck }) (ck+1):=by
  have old:∀ (z:Nat) (m:MapEntry),(es.push { key:=k,val:=v,born:=ck })[z]? = some m→(z<es.size∧es[z]? = some m)∨(z=es.size∧m={ key:=k,val:=v,born:=ck }):=by
    intro z m hz;rw [Array.getElem?_push] at hz;split at hz
    · rename_i h; injection hz with hz; exact .inr ⟨h,hz.symm⟩
    · exact .inl ⟨(sA.1 hz).1,hz⟩
  refine⟨fun z m hz=>?_,fun z z' m m' hz hz' hb=>?_⟩
  · rcases old z m hz with⟨_,h2⟩|⟨rfl,rfl⟩
    · have:=h.lt z m h2; omega
    · exact Nat.lt_succ_self _
  · rcases old z m hz with⟨_,h2⟩|⟨rfl,rfl⟩ <;> rcases old z' m' hz' with⟨_,h2'⟩|⟨rfl,rfl⟩
    · exact h.inj z z' m m' h2 h2' hb
    · have:=h.lt z m h2; simp only at hb; omega
    · have:=h.lt z' m' h2'; simp only at hb; omega
    · rfl
theorem tA {es:Array MapEntry} {p:Nat} {f:MapEntry→MapEntry} {z:Nat} {m:MapEntry} (hz:(es.modify p f)[z]? = some m):∃ m0,es[z]? = some m0∧m=if p=z then f m0 else m0:=by
  rw [ss] at hz;split at hz
  · rename_i h;obtain⟨m0,h1,rfl⟩:=C6.1 hz;exact⟨m0,h1,by rw [if_pos h]⟩
  · rename_i h; exact⟨m,hz,by rw [if_neg h]⟩
theorem kq.modify {es:Array MapEntry} {ck:Nat} (h:kq es ck) (p:Nat) (f:MapEntry→MapEntry) (hf:∀ e,(f e).born=e.born):kq (es.modify p f) ck:=by
  have old:∀ (z:Nat) (m:MapEntry),(es.modify p f)[z]? = some m→∃ m0,es[z]? = some m0∧m.born=m0.born:=by
    intro z m hz;obtain⟨m0,h1,rfl⟩:=tA hz;refine⟨m0,h1,?_⟩;split
    · exact hf m0
    · rfl
  refine⟨fun z m hz=>?_,fun z z' m m' hz hz' hb=>?_⟩
  · obtain⟨m0,h1,h2⟩:=old z m hz; rw [h2]; exact h.lt z m0 h1
  · obtain⟨m0,h1,h2⟩:=old z m hz;obtain⟨m1,h3,h4⟩:=old z' m' hz';exact h.inj z z' m0 m1 h1 h3 (by rw [← h2,← h4]; exact hb)
theorem kq.find {es:Array MapEntry} {ck p:Nat} {m0:MapEntry} (h:kq es ck) (hm0:es[p]? = some m0):es.findIdx? (fun m=>(m.born:Int)==(m0.born:Int))=some p:=by
  rw [Array.findIdx?_eq_some_iff_getElem];obtain⟨h1,h2⟩:=sA.1 hm0;refine⟨h1,by simp [h2],fun z hz=>?_⟩;have hzl:z<es.size:=by omega
  intro h3;have h3:(es[z].born:Int)=(m0.born:Int):=by simpa using h3
  have:=h.inj z p _ _ (sB hzl) hm0 (by omega);omega
def xO (es:Array MapEntry) (ck:Nat):bG:=⟨fun _ _=>kq es ck,fun h _ _=>h⟩
def Ja {κ ν:Type} (RK:aR κ) (ak:Bool) (RV:aR ν) (av:Bool) (q:κ→κ→Bool) (es:Array MapEntry) (ck:Nat) (xs:List (κ×ν)) (key:κ) (s:Int):bG :=
  ⟨fun T w=>∃ (u:ν) (p:Nat) (m:MapEntry),bw RK ak RV av T w es (de q key u xs)∧kq es ck∧es[p]? = some m∧s=m.born∧∀ y,(de q key u xs).set p (key,y)=de q key y xs,
   fun h k n=>by obtain⟨u,p,m,h1,h2⟩:=h; exact⟨u,p,m,h1.keep k n,h2⟩⟩
section
variable {κ ν:Type} {P:Program} {W:World} {M T E:Nat→Prop} {n:Nat} {G G':List (Nat×Value)} {D D':List cc} {F F':List bG} {a:Act} {w w':World} {K:Act→World→Prop}
variable {kt et:TypeId} {RK:aR κ} {ak:Bool} {RV:aR ν} {av:Bool} {q:κ→κ→Bool} {b clock:Nat} {es:Array MapEntry} {xs:List (κ×ν)}
theorem DC {t:TypeId} (ht:DB P t=some (kt,et)) (hK:uN P kt RK ak q) {T:Nat→Prop} {w w0:World} (hr:w.heap[b]? = some (.map es clock)) (hm:bw RK ak RV av T w0 es xs) (hB:kq es clock) {c cv:ba} {key:κ} {val:ν} (hc:RK.rel T w0 c key) (hv:RV.rel T w0 cv val) :
    ∃ es' ck',(Instr.mapUpdate t (.map (some b)) (bg ak c) (bg av cv)).run P w = .ok () { w with heap:=w.heap.setIfInBounds b (.map es' ck') }∧bw RK ak RV av T w0 es' (de q key val xs)∧kq es' ck':=by
  obtain⟨hl,hkeys⟩:=sJ hm;have hf:=oQ hK hc w hl hkeys;have hch:=hK.check false _ _ w _ _ hc;cases hp:qO q key xs with
  | none =>
    obtain⟨_,g2,_⟩:=oE hp;rw [hp] at hf;refine⟨es.push { key:=bg ak c,val:=bg av cv,born:=clock },clock+1,?_,⟨by rw [g2]; simp [hm.1],fun z e x he hx=>?_⟩,hB.push _ _⟩
    · simp [Instr.mapUpdate,run_underlying (kW ht),tx hr,hch,hf,wh,zJ _ hr]
    · rw [g2] at hx;by_cases hz:z<xs.length
      · rw [og hz] at hx;rw [FR (by rw [hm.1]; exact hz)] at he;exact hm.2 z e x (by rw [← he]; exact (sB _)) hx
      · rw [qA (by omega)] at hx;obtain rfl:z=xs.length:=by
          rcases ik xs.length z with h | h
          · rw [yY (by simp; omega)] at hx; cases hx
          · omega
        simp at hx;subst hx;rw [← hm.1,zQ] at he;simp only [cE] at he;subst he;exact⟨⟨c,hc,rfl⟩,cv,hv,rfl⟩
  | some p =>
    obtain⟨x0,hx0,hq0,_,g2,_⟩:=oF hp;have hpi:p<es.size:=by rw [hm.1]; exact (bD.1 hx0).1
    have he0:es[p]? = some es[p]:=sB hpi;obtain⟨⟨d0,hd0,hk0⟩,_⟩:=hm.2 p _ x0 he0 hx0;have hbits:=hK.bits _ _ _ _ _ _ _ _ hc hd0 hq0;rw [hp] at hf;refine⟨es.modify p fun e=>{ e with key:=bg ak c,val:=bg av cv },clock,?_,⟨by rw [g2]; simp [hm.1],fun z e x he hx=>?_⟩,hB.modify p _ fun _=>rfl⟩
    · have hat:wh es.toList 0 (some p)=some (p,es[p].val):=by simp [wh,he0]
      rw [hat] at hf;have hkt:(Instr.keyThatStays (((es[p]?).map (·.key)).getD (bg ak c)) (bg ak c)).run P w = .ok (bg ak c) w:=by
        rw [he0];simp only [nZ,vm,hk0,Instr.keyThatStays,hbits,if_true,Sem.run_pure]
      simp only [Instr.mapUpdate,Sem.run_bind,run_underlying (kW ht),Result.andThen_ok,tx hr,hch,hf,hkt,zJ _ hr]
    · rw [g2] at hx;by_cases hz:p=z
      · subst hz;rw [tg (by rw [← hm.1]; exact hpi)] at hx;simp only [cE] at hx;subst hx;rw [ss,if_pos rfl,he0] at he;simp only [nZ,cE] at he;subst he;exact⟨⟨c,hc,rfl⟩,cv,hv,rfl⟩
      · rw [tl hz] at hx;rw [ss,if_neg hz] at he;exact hm.2 z e x he hx
theorem AF {d:Nat} {t ty:TypeId} (RK:aR κ) (ak:Bool) (RV:aR ν) (av:Bool) (hS:St W M T n G D F a w) (hn:Nat.blt d n=true)
    (k:∀ b,w.heap.size≤b→∀ a w',Kt No w w'→St W M T n ((d,.map (some b))::G) (.obj b (.map #[] 0)::D) (xO #[] 0::nA RK ak RV av #[] []::F) a w'→K a w'):po P ⟨some d,.makeMap t none,ty,pos,af,g⟩ a w K :=
  pC RK ak RV av hS hn fun b hb a w' hk hS=>k b hb a w' hk (hS.fact _ kq.nil)
theorem Cz {t ty:TypeId} {X Y Z:Operand} (hS:St W M T n G D F a w) (ht:DB P t=some (kt,et)) (hK:uN P kt RK ak q) (i:Nat) (hi:D[i]? = some (.obj b (.map es clock))) (j:Nat) (hj:F[j]? = some (nA RK ak RV av es xs)) (jb:Nat) (hb:F[jb]? = some (xO es clock))
    {c cv:ba} {key:κ} {val:ν} (hc:RK.rel (dT T D) w c key) (hv:RV.rel (dT T D) w cv val) (hX:ev G X=some (.map (some b))) (hY:ev G Y=some (bg ak c)) (hZ:ev G Z=some (bg av cv))
    (k:∀ es' ck' w',Kt (fun j=>j=b) w w'→St W M T n G (D.set i (.obj b (.map es' ck'))) (xO es' ck'::nA RK ak RV av es' (de q key val xs)::F) a w'→K a w'):po P ⟨none,.mapUpdate t X Y Z,ty,pos,af,g⟩ a w K:=by
  have hr:w.heap[b]? = some (.map es clock):=hS.own _ (aH hi);obtain⟨es',ck',hrun,hok,hB⟩:=DC ht hK hr (hS.mapOk j hj) (hS.get jb hb) hc hv;refine AI (w':={ w with heap:=w.heap.setIfInBounds b (.map es' ck') }) (by simp [execOp,hS.ev hX,hS.ev hY,hS.ev hZ,hrun]) (k es' ck' _ ((n8 hr).mono fun j hj=>(bO hj).symm) ?_);exact ((hS.fact (nA RK ak RV av es' _) hok).fact (xO es' ck') hB).turn hi (n8 hr) (r':=.obj b (.map es' ck')) (pr hr).1 fun j hj=>.inl hj
theorem wX {t ty:TypeId} {X Y Z:Operand} (hS:St W M T n G D F a w) (ht:DB P t=some (kt,et)) (hK:uN P kt RK ak q) (i:Nat) (hi:D[i]? = some (.obj b (.map es clock))) (j:Nat) (hj:F[j]? = some (nA RK ak RV av es xs)) (jb:Nat) (hb:F[jb]? = some (xO es clock))
    {c cv:ba} {key:κ} {val:ν} (hc:RK.rel (dT T D) w c key) (hv:RV.rel (dT T D) w cv val) (hX:ev G X=some (.map (some b))) (hY:ev G Y=some (bg ak c)) (hZ:ev G Z=some (bg av cv))
    (k:∀ es' ck' w',Kt (fun j=>j=b) w w'→St W M T n G (D.set i (.obj b (.map es' ck'))) (xO es' ck'::nA RK ak RV av es' (de q key val xs)::F) a w'→K a w'):po P ⟨none,.insert t X Y Z,ty,pos,af,g⟩ a w K :=
  Cz (ty:=ty) (pos:=pos) (af:=af) (g:=g) hS ht hK i hi j hj jb hb hc hv hX hY hZ k
theorem Du {d:Nat} {t ty:TypeId} {X Y:Operand} (hS:St W M T n G D F a w) (hd:Nat.blt d n=true) (ht:DB P t=some (kt,et)) (hK:uN P kt RK ak q) (i:Nat) (hi:D[i]? = some (.obj b (.map es clock))) (j:Nat) (hj:F[j]? = some (nA RK ak RV av es xs)) (jb:Nat) (hb:F[jb]? = some (xO es clock))
    {c:ba} {key:κ} (hc:RK.rel (dT T D) w c key) {z:Value} {zc:ba} {z0:ν} (hz:HP P et=some z) (hzc:z=bg av zc) (hz0:RV.rel (dT T D) w zc z0) (hX:ev G X=some (.map (some b))) (hY:ev G Y=some (bg ak c))
    (k:∀ v es' ck' (s:Int) a w',Kt (fun j=>j=b) w w'→St W M T n ((d,.tuple #[v,.int .i64 s])::G) (D.set i (.obj b (.map es' ck'))) (Ja RK ak RV av q es' ck' xs key s::F) a w'→K a w'):po P ⟨some d,.mapEntry t X Y,ty,pos,af,g⟩ a w K:=by
  have hr:w.heap[b]? = some (.map es clock):=hS.own _ (aH hi);have hm:=hS.mapOk j hj;have hB:kq es clock:=hS.get jb hb;obtain⟨hl,hkeys⟩:=sJ hm;have hf:=oQ hK hc w hl hkeys;have hch:=hK.check false _ _ w _ _ hc;have hzr:=zV (P:=P) hz w;cases hp:qO q key xs with
  | none =>
    obtain⟨_,g2,_⟩:=oE hp;rw [hp] at hf;have hrun:(execOp a.eval ⟨some d,.mapEntry t X Y,ty,pos,af,g⟩).run P w = .ok (.value (.tuple #[z,.int .i64 clock])) { w with heap:=w.heap.setIfInBounds b (.map (es.push { key:=bg ak c,val:=z,born:=clock }) (clock+1)) }:=by
      simp [execOp,hS.ev hX,hS.ev hY,Instr.mapEntry,run_underlying (kW ht),tx hr,hch,hf,wh,zJ _ hr,hzr,goInt]
    refine uY hrun (k z (es.push { key:=bg ak c,val:=z,born:=clock }) (clock+1) clock _ _ ((n8 hr).mono fun j hj=>(bO hj).symm) ?_);refine St.put ?_ hd _;refine (hS.fact (Ja RK ak RV av q _ (clock+1) xs key clock) ?_).turn hi (n8 hr) (r':=.obj b (.map (es.push { key:=bg ak c,val:=z,born:=clock }) (clock+1))) (pr hr).1 fun j hj=>.inl hj;refine⟨z0,xs.length,{ key:=bg ak c,val:=z,born:=clock },⟨by rw [g2]; simp [hm.1],fun y e x he hx=>?_⟩,hB.push _ _,by rw [← hm.1,zQ],rfl,fun y=>by rw [g2,g2,List.set_append_right _ _ (cM _)]; simp⟩;rw [g2] at hx;by_cases hz:y<xs.length
    · rw [og hz] at hx;rw [FR (by rw [hm.1]; exact hz)] at he;exact hm.2 y e x (by rw [← he]; exact (sB _)) hx
    · rw [qA (by omega)] at hx;obtain rfl:y=xs.length:=by
        rcases ik xs.length y with h | h
        · rw [yY (by simp; omega)] at hx; cases hx
        · omega
      simp at hx;subst hx;rw [← hm.1,zQ] at he;simp only [cE] at he;subst he;exact⟨⟨c,hc,rfl⟩,zc,hz0,hzc⟩
  | some p =>
    obtain⟨x0,hx0,hq0,_,g2,_⟩:=oF hp;have hpi:p<es.size:=by rw [hm.1]; exact (bD.1 hx0).1
    have hpx:p<xs.length:=(bD.1 hx0).1;have he0:es[p]? = some es[p]:=sB hpi;obtain⟨⟨d0,hd0,hk0⟩,cv0,hcv0,hv0⟩:=hm.2 p _ x0 he0 hx0;have hbits:=hK.bits _ _ _ _ _ _ _ _ hc hd0 hq0;rw [hp] at hf;have hat:wh es.toList 0 (some p)=some (p,es[p].val):=by simp [wh,he0]
    rw [hat] at hf;have hkt:(Instr.keyThatStays es[p].key (bg ak c)).run P w = .ok (bg ak c) w:=by
      simp only [hk0,Instr.keyThatStays,hbits,if_true,Sem.run_pure]
    have hrun:(execOp a.eval ⟨some d,.mapEntry t X Y,ty,pos,af,g⟩).run P w = .ok (.value (.tuple #[es[p].val,.int .i64 es[p].born])) { w with heap:=w.heap.setIfInBounds b (.map (es.modify p fun m=>{ m with key:=bg ak c }) clock) }:=by
      have h5:(Instr.mapEntry t (.map (some b)) (bg ak c)).run P w = .ok (.tuple #[es[p].val,.int .i64 es[p].born]) { w with heap:=w.heap.setIfInBounds b (.map (es.modify p fun m=>{ m with key:=bg ak c }) clock) }:=by
        simp only [Instr.mapEntry,Sem.run_bind,run_underlying (kW ht),Result.andThen_ok,tx hr,hch,hf,hkt,zJ _ hr,Sem.run_pure,goInt,he0,nZ,vm]
      simp only [execOp,hS.ev hX,hS.ev hY,Sem.run_bind,h5,Result.andThen_ok,Sem.run_pure]
    refine uY hrun (k es[p].val (es.modify p fun m=>{ m with key:=bg ak c }) clock es[p].born _ _ ((n8 hr).mono fun j hj=>(bO hj).symm) ?_);refine St.put ?_ hd _;refine (hS.fact (Ja RK ak RV av q _ clock xs key es[p].born) ?_).turn hi (n8 hr) (r':=.obj b (.map (es.modify p fun m=>{ m with key:=bg ak c }) clock)) (pr hr).1 fun j hj=>.inl hj;refine⟨x0.2,p,{ es[p] with key:=bg ak c },⟨by rw [g2]; simp [hm.1],fun y e x he hx=>?_⟩,hB.modify p _ fun _=>rfl,by rw [ss,if_pos rfl,he0]; rfl,rfl,fun y=>by rw [g2,g2,List.set_set]⟩;obtain⟨m0,h1,h2⟩:=tA he;rw [g2,rv] at hx;by_cases hz:p=y
    · subst hz;rw [if_pos rfl,if_pos hpx] at hx;simp only [cE] at hx;subst hx;rw [if_pos rfl] at h2;rw [he0] at h1;obtain rfl:=bO h1;subst h2;exact⟨⟨c,hc,rfl⟩,cv0,hcv0,hv0⟩
    · rw [if_neg hz] at hx h2;subst h2;exact hm.2 y _ x h1 hx
theorem Dv {t ty:TypeId} {X Y Z:Operand} {key:κ} {s:Int} {cv:ba} {val:ν} (hS:St W M T n G D F a w) (i:Nat) (hi:D[i]? = some (.obj b (.map es clock))) (j:Nat) (hj:F[j]? = some (Ja RK ak RV av q es clock xs key s)) (hv:RV.rel (dT T D) w cv val) (hX:ev G X=some (.map (some b))) (hY:ev G Y=some (.int .i64 s)) (hZ:ev G Z=some (bg av cv))
    (k:∀ es' w',Kt (fun j=>j=b) w w'→St W M T n G (D.set i (.obj b (.map es' clock))) (xO es' clock::nA RK ak RV av es' (de q key val xs)::F) a w'→K a w'):po P ⟨none,.entryStore t X Y Z,ty,pos,af,g⟩ a w K:=by
  have hr:w.heap[b]? = some (.map es clock):=hS.own _ (aH hi);obtain⟨u,p,m0,hm,hB,hm0,rfl,hset'⟩:(Ja RK ak RV av q es clock xs key s).p (dT T D) w:=hS.get j hj;have hfi:=hB.find hm0;have hrun:(execOp a.eval ⟨none,.entryStore t X Y Z,ty,pos,af,g⟩).run P w = .ok .skip { w with heap:=w.heap.setIfInBounds b (.map (es.modify p fun m=>{ m with val:=bg av cv }) clock) }:=by
    have h5:(Instr.entryStore t (.map (some b)) (.int .i64 (m0.born:Int)) (bg av cv)).run P w = .ok () { w with heap:=w.heap.setIfInBounds b (.map (es.modify p fun m=>{ m with val:=bg av cv }) clock) }:=by
      simp only [Instr.entryStore,Sem.run_bind,tx hr,Result.andThen_ok,asInt,asIntOf,Sem.run_pure,hfi,zJ _ hr]
    simp only [execOp,hS.ev hX,hS.ev hY,hS.ev hZ,Sem.run_bind,h5,Result.andThen_ok,Sem.run_pure]
  refine AI hrun (k (es.modify p fun m=>{ m with val:=bg av cv }) _ ((n8 hr).mono fun j hj=>(bO hj).symm) ?_);refine ((hS.fact (nA RK ak RV av (es.modify p fun m=>{ m with val:=bg av cv }) (de q key val xs)) ?_).fact (xO (es.modify p fun m=>{ m with val:=bg av cv }) clock) (hB.modify p _ fun _=>rfl)).turn hi (n8 hr) (r':=.obj b (.map (es.modify p fun m=>{ m with val:=bg av cv }) clock)) (pr hr).1 fun j hj=>.inl hj;rw [← hset' val];refine⟨by simp [hm.1],fun y e x he hx=>?_⟩;obtain⟨m1,h1,h2⟩:=tA he;rw [rv] at hx;by_cases hz:p=y
  · subst hz;have hpx:p<(de q key u xs).length:=by rw [← hm.1]; exact (sA.1 h1).1
    rw [if_pos rfl,if_pos hpx] at hx;simp only [cE] at hx;subst hx;rw [if_pos rfl] at h2;subst h2;obtain⟨⟨d,hd,hk⟩,_⟩:=hm.2 p m1 _ h1 (bC hpx);have hkk:(de q key u xs)[p].1=key:=by
      have h6:=hset' u;have h7:=congrArg (fun l=>l[p]?) h6;simp only [rv,if_true,hpx,bC hpx,cE] at h7;rw [← h7]
    exact⟨⟨d,by rw [hkk] at hd; exact hd,hk⟩,cv,hv,rfl⟩
  · rw [if_neg hz] at hx h2;subst h2;exact hm.2 y _ x h1 hx
end
end
section
open Go.RowKit
section
variable {P:Program} {a:Act} {w:World} {Q:Exit→Act→World→Prop}
theorem xq {x:Code} (J:Act→World→Prop) (h1:x.wp P (Exit.then J Q) a w) (h2:∀ a w,J a w→Q .normal a w):x.wp P Q a w :=
 wp_mono h1 fun e a w h=>by cases e <;> first | exact h2 a w h | exact h
theorem xV {fn:Func} {R:Ending→World→Prop} (h:bodyPost P fn R .ret a w):bodyPost P fn R .normal a w:=h
end
section
variable {κ ν:Type} {P:Program} {W:World} {M T E:Nat→Prop} {n:Nat} {G G':List (Nat×Value)} {D D':List cc} {F F':List bG} {a:Act} {w w':World} {K:Act→World→Prop}
variable {kt et:TypeId} {RK:aR κ} {ak:Bool} {RV:aR ν} {av:Bool} {q:κ→κ→Bool} {b r ck:Nat} {es:Array MapEntry} {seen:Array Nat} {xs:List (κ×ν)}
end
end
section
open Go.RowKit
section
variable {P:Program} {W:World} {M T:Nat→Prop} {n d j t:Nat} {G:List (Nat×Value)} {D:List cc} {F:List bG} {a:Act} {w:World} {ops:Array Oper} {Q:Exit→Act→World→Prop} {rest:List Oper} {o:Oper} {v:Value} {x y:Operand} {ty tt t':TypeId} {pos:String} {af:Array Edge} {want c:Bool} {id:Nat} {l:List Oper} {z:Code}
theorem qy (hS:St W M T n G D F a w) (h:Ye P o a No w v) (k:∀ a,St W M T n ((d,v)::G) D F a w→wpList P ops Q rest a w) (hg:o.guard=none:=by rfl) (hd:o.dst=some d:=by rfl) (hn:Nat.blt d n=true:=by rfl):wpList P ops Q (o::rest) a w:=wy hS h hg hd hn k
theorem qg (hS:St W M T n G D F a w) (hc:c=want) (h:Ye P o a No w v) (k:∀ a,St W M T n ((d,v)::G) D F a w→wpList P ops Q rest a w) (hg:o.guard=some (j,want):=by rfl) (hj:(ops[j]?).bind (·.dst)=some t:=by rfl) (ht:lk G t=some (.bool c):=by rfl) (hd:o.dst=some d:=by rfl) (hn:Nat.blt d n=true:=by rfl):wpList P ops Q (o::rest) a w:=wg hS hg hj ht hc (ky hS h hd hn k)
theorem qm (hS:St W M T n G D F a w) (k:∀ a,St W M T n ((d,v)::G) D F a w→wpList P ops Q rest a w) (hx:ev G x=some v:=by rfl) (hn:Nat.blt d n=true:=by rfl):wpList P ops Q (⟨some d,.move x,ty,pos,af,none⟩::rest) a w:=wy hS (FN hS hx) rfl rfl hn k
theorem qa (hS:St W M T n G D F a w) (k:∀ a,St W M T n ((d,v)::G) D F a w→wpList P ops Q rest a w) (hx:ev G x=some v:=by rfl) (hn:Nat.blt d n=true:=by rfl):wpList P ops Q (⟨some d,.assign x,ty,pos,af,none⟩::rest) a w:=wy hS (Bm hS hx) rfl rfl hn k
theorem rq (h:∀ K:Act→World→Prop,(∀ a w,z.wp P Q a w→K a w)→wpList P l.toArray (Exit.then K Q) l a w):(Code.seq (Code.region id l.toArray false) z).wp P Q a w:=wp_seq_k fun K hK=>B0 (h K hK)
theorem rz (h:Q .normal a w):wpList P ops Q [] a w:=wpList_nil h
end
end
section
open Go.RowKit
variable {pos:String} {af:Array Edge} {g:Option (Nat×Bool)}
section
variable {α:Type} {R:aR α} {P:Program} {W:World} {M T E:Nat→Prop} {n:Nat} {G:List (Nat×Value)} {D rs:List cc} {F:List bG} {a:Act} {w:World} {K:Act→World→Prop} {xs ys:List α} {i:Int} {x:α} {cs cl:ba}
theorem FK {d:Option Nat} {X:Operand} {t e e':TypeId} {ty:TypeId} {v:Value} (hS:St W M T n G D F a w) (ht:kw P t=some e) (hx:ev G X=some v) (j:Nat) (hj:D[j]? = some (.own v e' R.size cl)) (p:Nat) (hp:F[p]? = some (an (HR R) cl (dY xs i cs))):Ye P ⟨d,.call { callee:=.builtin .len,args:=#[X],argTypes:=#[t] },ty,pos,af,g⟩ a E w (.int .i64 xs.length):=by
  have h:=FL (R:=HR R) (xs:=dY xs i cs) (d:=d) (ty:=ty) (pos:=pos) (af:=af) (g:=g) (E:=E) hS ht hx j hj p hp;rw [uc] at h;exact h
theorem Gc {e e' t:TypeId} {v:Value} {lo hi:Int} {ag:Bool} (hS:St W M T n G D F a w) (ht:kw P t=some e) (he:mx P e=some (ag,R.size)) (q:Nat) (hq:D[q]? = some (.own v e' R.size cl)) (j:Nat) (hj:F[j]? = some (an (HR R) cl (dY xs i cs))) (hg:pm xs lo hi=some ys) :
    ∃ v',(∀ (T:Nat→Prop) (w:World),aC R T w v xs→aC R T w v' ys)∧(∀ {E:Nat→Prop} {d:Option Nat} {ty:TypeId} {X:Operand} {olo ohi:Option Operand} {pos:String} {af:Array Edge} {g:Option (Nat×Bool)} {k1 k2:IntKind},ev G X=some v→((∃ x,olo=some x∧ev G x=some (.int k1 lo))∨(olo=none∧lo=0))→((∃ x,ohi=some x∧ev G x=some (.int k2 hi))∨(ohi=none∧hi=xs.length))→Ye P ⟨d,.slice t X olo ohi none,ty,pos,af,g⟩ a E w v'):=by
  obtain⟨q1,q2,q3,rfl⟩:=oH hg;obtain⟨A,c,hv,h1,h2,hS'⟩:=G1 (R:=HR R) (xs:=dY xs i cs) (lo:=lo.toNat) (hi:=hi.toNat) hS q hq j hj (by omega) (by rw [uc]; omega);rw [uc] at hv h1;refine⟨_,fun T w h=>?_,fun hX hlo hhi=>Hb hS ht he q1 q2 q3 h1 hv hX hlo hhi⟩;subst hv;refine h.cut (by omega) (by omega) _ (fun hlt b o hA=>?_);rw [if_neg (by omega),hA];simp [kC,HR]
theorem EH {d:Nat} {t e e' ty:TypeId} {X Y:Operand} {v:Value} {k:IntKind} {ag:Bool} (hS:St W M T n G D F a w) (ht:kw P t=some e) (he:mx P e=some (ag,R.size)) (hX:ev G X=some v) (hY:ev G Y=some (.int k i)) (q:Nat) (hq:D[q]? = some (.own v e' R.size cl)) (j:Nat) (hj:F[j]? = some (an (HR R) cl (dY xs i cs))) (hg:bk xs i=some x) (hn:Nat.blt d n=true)
    (K':∀ b o p,FW v b o R.size i p→(∀ k u,cs[k]? = some u→cl[p+k]? = some u)→∀ a,St W M T n ((d,.pointer (some ⟨b,o,none⟩))::G) D F a w→K a w):po P ⟨some d,.indexAddr t X Y,ty,pos,af,g⟩ a w K :=
  c7 (R:=HR R) hS ht he hX hY q hq j hj (sF hg cs) hn fun b o p c hr ho hc=>by
    obtain⟨rfl,_,_⟩:=hr;exact K' b o p ho hc
theorem mI {t ty e:TypeId} {X Y:Operand} {ag:Bool} {z b o k p:Nat} {v u:Value} {us:ba} (hS:St W M T n G D F a w) (hX:ev G X=some (.pointer (some ⟨b,o+k,none⟩))) (hY:ev G Y=some u) (hu:u.cells.toList=us) (ht:mx P t=some (ag,z)) (q:Nat) (hq:D[q]? = some (.own v e R.size cl)) (j:Nat) (hj:F[j]? = some (an (HR R) cl (dY xs i cs))) (ho:FW v b o R.size i p) (hg:bk xs i=some x)
    (hz:us.length=z) (hl:Nat.ble (k+z) cs.length=true) (hone:∀ y∈us,y.oneCell'=true)
    (K':∀ cl' w',Kt (fun j=>v.ownBlock=some j) w w'→St W M T n G (D.set q (.own v e R.size cl')) (an (HR R) cl' (dY xs i (kT cs k us))::F) a w'→K a w'):po P ⟨none,.store t X Y,ty,pos,af,g⟩ a w K :=
  EI hS hX hY hu ht q hq j hj ho hg hz hl (fun y hy=>by
    have hr:(HR R).rel (dT T D) w cs (Sum.inl cs):=AC (hS.get j hj) hg;unfold kT at hy;simp only [cg] at hy;rcases hy with (hy | hy) | hy
    · exact hr.2.2 y (List.mem_of_mem_take hy)
    · exact hone y hy
    · exact hr.2.2 y (List.mem_of_mem_drop hy)) K'
theorem St.closeHs (hS:St W M T n G D F a w) (j:Nat) (hj:F[j]? = some (an (HR R) cl (dY xs i cs))) (hg:bk xs i=some x) (hr:R.rel (dT T D) w cs x):St W M T n G D (an R cl xs::F) a w:=by
  have h:=hS.closeH j hj hr;rw [Fq hg] at h;exact h
def w4 {α:Type} (p:List α) (cs:ba):List (ba ⊕ α):=p.map Sum.inr++[Sum.inl cs]
theorem yt {p:List α} (h:i.toNat=p.length):dY (p++[x]) i cs=w4 p cs:=by
  unfold dY w4;rw [h,vO,List.set_append_right _ _ (by simp)];simp
theorem E1 {v:Value} {e:TypeId} (hS:St W M T n G D F a w) (q:Nat) (hq:D[q]? = some (.own v e R.size cl)) (j:Nat) (hj:F[j]? = some (an R cl xs)):xs.length≤maxLen:=by
  obtain⟨h1,h2⟩:=hS.own _ (aH hq);have h3:az R (dT T D) w cl xs:=hS.get j hj;obtain⟨A,m,c,rfl,h4,h5,h6,_⟩:=h1.form h2;have:m=xs.length:=vQ h2 (h4.symm.trans h3.1);omega
theorem EO {p:List α} {x e:α} (hb:p.length≤maxLen) (h:bk (p++[x]) (IntKind.i64.wrap (((p++[x]).length:Int)-1))=some e):x=e∧(IntKind.i64.wrap (((p++[x]).length:Int)-1)).toNat=p.length:=by
  obtain⟨h1,h2,h3⟩:=eU h;have hl:(p++[x]).length=p.length+1:=by simp
  unfold maxLen at hb;have hw:IntKind.i64.wrap (((p++[x]).length:Int)-1)=p.length:=by rw [IntKind.wrap_i64,hl]; omega
  rw [hw] at h3 ⊢;refine⟨?_,by simp⟩;simpa using h3
theorem St.closeLast {p:List α} (hS:St W M T n G D F a w) (j:Nat) (hj:F[j]? = some (an (HR R) cl (w4 p cs))) (hr:R.rel (dT T D) w cs x):St W M T n G D (an R cl (p++[x])::F) a w:=by
  have h:=hS.closeH (R:=R) (xs:=p++[x]) (i:=(p.length:Int)) (cs:=cs) j (by rw [yt (by simp)]; exact hj) hr;rw [show (p++[x]).set ((p.length:Int)).toNat x=p++[x] by simp] at h;exact h
end
section
variable {α:Type} {R:aR α} {P:Program} {W:World} {M T E:Nat→Prop} {n:Nat} {G:List (Nat×Value)} {D rs:List cc} {F:List bG} {a:Act} {w:World} {K:Act→World→Prop} {xs ys zs:List α} {v0 v1 v2:Value}
end
section
variable {W:World} {M T:Nat→Prop} {n:Nat} {G G2:List (Nat×Value)} {D rs:List cc} {F F2 F0:List bG} {a:Act} {w:World}
def nB (W:World) (M:Nat→Prop) (rs:List cc) (F0:List bG):bG :=
  ⟨fun T w=>(∀ r∈rs,r.ok w)∧(∀ r∈rs,∀ k,r.dom k→¬ T k∧(M k∨W.heap.size≤k))∧(rs.Pairwise fun (r s:cc)=>∀ (k:Nat),r.dom k→¬ s.dom k)∧∀ f∈F0,f.p (dT T rs) w,
   fun h k n=>⟨fun r hr=>cc.keep (h.1 r hr) fun j hj=>k.block j (cc.lt (h.1 r hr) j hj) (h.2.1 r hr j hj).1,
     fun r hr j hj=>⟨fun hT=>by
       rcases n j hT with h1 | h1
       · exact (h.2.1 r hr j hj).1 h1
       · have:=cc.lt (h.1 r hr) j hj; omega,(h.2.1 r hr j hj).2⟩,h.2.2.1,
     fun f hf=>f.keep (h.2.2.2 f hf) (k.mono fun j hj=>.inl hj) fun j hj=>by
       rcases hj with hj | hj
       · rcases n j hj with h1 | h1
         · exact .inl (.inl h1)
         · exact .inr h1
       · exact .inl (.inr hj)⟩⟩
theorem St.snap (hS:St W M T n G D F2 a w) (hY:St W M T n G2 (rs++D) F a w):St W M T n G D (nB W M rs F::F2) a w :=
  hS.fact _ ⟨fun r hr=>hY.own r (gv _ hr),fun r hr k hk=>⟨by
      rintro (hT | ⟨s,hs,hT⟩)
      · exact (hY.free r (gv _ hr) k hk).1 hT
      · exact (ti.1 hY.apart).2.2 r hr s hs k hk hT,(hY.free r (gv _ hr) k hk).2⟩,(ti.1 hY.apart).1,
    fun f hf=>f.keep (hY.facts f hf) (aj _ _) fun k hk=>.inl (by
      rcases hk with (hk | ⟨s,hs,hk⟩) | ⟨r,hr,hk⟩
      · exact .inl hk
      · exact .inr ⟨s,ol _ hs,hk⟩
      · exact .inr ⟨r,gv _ hr,hk⟩)⟩
theorem St.thaw (hS:St W M T n G D F a w) (i:Nat) (hi:F[i]? = some (nB W M rs F0)):St W M T n G (rs++D) F0 a w:=by
  obtain⟨h1,h2,h3,h4⟩:=(show (nB W M rs F0).p _ _ from hS.get i hi);refine⟨hS.size,hS.defers,hS.slots,hS.base,fun r hr=>?_,fun r hr k hk=>?_,ti.2 ⟨h3,hS.apart,fun r hr s hs k hk hk2=>(h2 r hr k hk).1 (.inr ⟨s,hs,hk2⟩)⟩,fun f hf=>f.keep (h4 f hf) (aj _ _) fun k hk=>.inl ?_,hS.tlt⟩
  · rcases cg.1 hr with hr | hr
    · exact h1 r hr
    · exact hS.own r hr
  · rcases cg.1 hr with hr | hr
    · exact⟨fun hT=>(h2 r hr k hk).1 (.inl hT),(h2 r hr k hk).2⟩
    · exact hS.free r hr k hk
  · rcases hk with hk | ⟨s,hs,hk⟩
    · exact .inl (.inl hk)
    · rcases cg.1 hs with hs | hs
      · exact .inr ⟨s,hs,hk⟩
      · exact .inl (.inr ⟨s,hs,hk⟩)
end
end
section
open Go.RowKit
structure ae where
  Kind:Int
  Text:ByteArray
def ac:aR ae where
  size:=2
  rel:=fun _ _ cs x=>cs=[.int .i64 x.Kind,.string x.Text]
  len:=by rintro _ _ _ _ rfl; rfl
  one:=by rintro _ _ _ _ rfl; exact (oc rfl (oc rfl on))
  keep:=fun h _ _=>h
structure ad where
  Key:ae
  Value:ByteArray
  Reads:(List ae)
  Changed:Int
  Verified:Int
  Cost:Int
  Dirty:Bool
def aa:aR ad where
  size:=8
  rel:=fun T w cs x=>∃ v1,cs=[.int .i64 x.Key.Kind,.string x.Key.Text,.string x.Value,v1,.int .i64 x.Changed,.int .i64 x.Verified,.int .i64 x.Cost,.bool x.Dirty]∧aC ac T w v1 x.Reads
  len:=by rintro _ _ _ _ ⟨v1,rfl,hv1⟩; rfl
  one:=by rintro _ _ _ _ ⟨v1,rfl,hv1⟩; exact (oc rfl (oc rfl (oc rfl (oc hv1.one (oc rfl (oc rfl (oc rfl (oc rfl on))))))))
  keep:=by rintro _ _ _ _ _ _ ⟨v1,rfl,hv1⟩ k n; exact⟨v1,rfl,hv1.keep k n⟩
structure aT where
  Key:ae
  Value:ByteArray
  Changed:Int
def ab:aR aT where
  size:=4
  rel:=fun _ _ cs x=>cs=[.int .i64 x.Key.Kind,.string x.Key.Text,.string x.Value,.int .i64 x.Changed]
  len:=by rintro _ _ _ _ rfl; rfl
  one:=by rintro _ _ _ _ rfl; exact (oc rfl (oc rfl (oc rfl (oc rfl on))))
  keep:=fun h _ _=>h
structure ai where
  Revision:Int
  Inputs:(List aT)
  Records:(List ad)
theorem Jn:aP aO 104=true:=by kernel_rfl
theorem El:aP aO 105=true:=by kernel_rfl
theorem Hl:aP aO 106=true:=by kernel_rfl
theorem Jp:aP aO 107=true:=by kernel_rfl
theorem Cn:aP aO 111=true:=by kernel_rfl
theorem Jv:aP aO 127=true:=by kernel_rfl
theorem Jw:aP aO 128=true:=by kernel_rfl
theorem Jx:aP aO 129=true:=by kernel_rfl
theorem Hs:aP aO 130=true:=by kernel_rfl
theorem Jy:aP aO 131=true:=by kernel_rfl
theorem Ht:aP aO 132=true:=by kernel_rfl
theorem JG:aP aO 147=true:=by kernel_rfl
theorem JH:aP aO 148=true:=by kernel_rfl
theorem JI:aP aO 149=true:=by kernel_rfl
theorem JN:aP aO 40=true:=by kernel_rfl
theorem JO:aP aO 43=true:=by kernel_rfl
theorem H3:aP aO 44=true:=by kernel_rfl
theorem H4:aP aO 45=true:=by kernel_rfl
theorem JQ:aP aO 66=true:=by kernel_rfl
theorem JR:aP aO 70=true:=by kernel_rfl
theorem Lf:aP aO 72=true:=by kernel_rfl
theorem Lg:aP aO 73=true:=by kernel_rfl
theorem Lh:aP aO 74=true:=by kernel_rfl
theorem Li:aP aO 75=true:=by kernel_rfl
theorem Lj:aP aO 76=true:=by kernel_rfl
theorem JS:aP aO 77=true:=by kernel_rfl
theorem H8:aP aO 79=true:=by kernel_rfl
theorem JT:aP aO 81=true:=by kernel_rfl
theorem zh:Ar aO 22=some (75,4,48):=by kernel_rfl
theorem pp:Ar aO 23=some (33,8,96):=by kernel_rfl
theorem EA:Ar aO 26=some (3,1,8):=by kernel_rfl
theorem gh:Ar aO 27=some (31,2,24):=by kernel_rfl
theorem If:dX aO 25 0=some 0:=by kernel_rfl
theorem Ig:dX aO 25 1=some 1:=by kernel_rfl
theorem Ih:dX aO 25 2=some 2:=by kernel_rfl
theorem Ii:dX aO 31 0=some 0:=by kernel_rfl
theorem Ij:dX aO 31 1=some 1:=by kernel_rfl
theorem Ik:dX aO 33 0=some 0:=by kernel_rfl
theorem Il:dX aO 33 1=some 2:=by kernel_rfl
theorem Im:dX aO 33 2=some 3:=by kernel_rfl
theorem In:dX aO 33 3=some 4:=by kernel_rfl
theorem Ip:dX aO 33 4=some 5:=by kernel_rfl
theorem Iq:dX aO 33 5=some 6:=by kernel_rfl
theorem Ir:dX aO 33 6=some 7:=by kernel_rfl
theorem Iu:dX aO 75 0=some 0:=by kernel_rfl
theorem Iv:dX aO 75 1=some 2:=by kernel_rfl
theorem Iw:dX aO 75 2=some 3:=by kernel_rfl
theorem J2:Tryz.prog.underlying 180=some (.interface (Tryz.prog.methodsAt 180)):=by kernel_rfl
theorem mixed:Tryz.prog.follows .mixedOrders=true:=by kernel_rfl
theorem Ba:kw aO 22=some 75:=by kernel_rfl
theorem dW:kw aO 23=some 33:=by kernel_rfl
theorem DQ:kw aO 26=some 3:=by kernel_rfl
theorem mz:kw aO 27=some 31:=by kernel_rfl
theorem L7:mx aO 22=some (false,1):=by kernel_rfl
theorem L8:mx aO 23=some (false,1):=by kernel_rfl
theorem eZ:mx aO 25=some (true,3):=by kernel_rfl
theorem Cb:mx aO 27=some (false,1):=by kernel_rfl
theorem zM:mx aO 3=some (false,1):=by kernel_rfl
theorem eJ:mx aO 31=some (true,2):=by kernel_rfl
theorem bX:mx aO 33=some (true,8):=by kernel_rfl
theorem I0:mx aO 4=some (false,1):=by kernel_rfl
theorem Bg:mx aO 75=some (true,4):=by kernel_rfl
theorem HK:mx aO 9=some (false,1):=by kernel_rfl
theorem lx:jh aO 25=some [.int .i64 0,.slice none 0 0,.slice none 0 0]:=by kernel_rfl
theorem KD:jh aO 3=some [.int .i64 0]:=by kernel_rfl
theorem dD:jh aO 33=some [.int .i64 0,.string bW,.string bW,.slice none 0 0,.int .i64 0,.int .i64 0,.int .i64 0,.bool false]:=by kernel_rfl
theorem xL:jh aO 75=some [.int .i64 0,.string bW,.string bW,.int .i64 0]:=by kernel_rfl
end
section
open Go.RowKit
structure aY where
  L:(List Int)
  At:Int
structure dk where
  Key:ae
  Value:ByteArray
def bc:aR dk where
  size:=3
  rel:=fun _ _ cs x=>cs=[.int .i64 x.Key.Kind,.string x.Key.Text,.string x.Value]
  len:=by rintro _ _ _ _ rfl; rfl
  one:=by rintro _ _ _ _ rfl; exact (oc rfl (oc rfl (oc rfl on)))
  keep:=fun h _ _=>h
structure cD where
  Cell:Bool
  Pick:Bool
  N:Int
  Else:Int
def dJ:aR cD where
  size:=4
  rel:=fun _ _ cs x=>cs=[.bool x.Cell,.bool x.Pick,.int .i64 x.N,.int .i64 x.Else]
  len:=by rintro _ _ _ _ rfl; rfl
  one:=by rintro _ _ _ _ rfl; exact (oc rfl (oc rfl (oc rfl (oc rfl on))))
  keep:=fun h _ _=>h
structure aI where
  Ring:Bool
  Asks:(List cD)
  Final:Int
  C:Int
def ar:aR aI where
  size:=4
  rel:=fun T w cs x=>∃ v1,cs=[.bool x.Ring,v1,.int .i64 x.Final,.int .i64 x.C]∧aC dJ T w v1 x.Asks
  len:=by rintro _ _ _ _ ⟨v1,rfl,hv1⟩; rfl
  one:=by rintro _ _ _ _ ⟨v1,rfl,hv1⟩; exact (oc rfl (oc hv1.one (oc rfl (oc rfl on))))
  keep:=by rintro _ _ _ _ _ _ ⟨v1,rfl,hv1⟩ k n; exact⟨v1,rfl,hv1.keep k n⟩
theorem HY:aP aO 12=true:=by kernel_rfl
theorem KR:aP aO 16=true:=by kernel_rfl
theorem lM:aP aO 19=true:=by kernel_rfl
theorem K8:aP aO 59=true:=by kernel_rfl
theorem JU:aP aO 85=true:=by kernel_rfl
theorem Ia:aP aO 90=true:=by kernel_rfl
theorem Lr:aP aO 91=true:=by kernel_rfl
theorem Ez:Ar aO 113=some (119,4,24):=by kernel_rfl
theorem rR:Ar aO 138=some (9,1,16):=by kernel_rfl
theorem Gg:Ar aO 36=some (115,4,48):=by kernel_rfl
theorem JZ:Ar aO 58=some (89,3,40):=by kernel_rfl
theorem Gj:dX aO 115 0=some 0:=by kernel_rfl
theorem Gk:dX aO 115 1=some 1:=by kernel_rfl
theorem Gl:dX aO 115 2=some 2:=by kernel_rfl
theorem Gm:dX aO 115 3=some 3:=by kernel_rfl
theorem Gn:dX aO 119 0=some 0:=by kernel_rfl
theorem Gp:dX aO 119 1=some 1:=by kernel_rfl
theorem Gq:dX aO 119 2=some 2:=by kernel_rfl
theorem Gr:dX aO 119 3=some 3:=by kernel_rfl
theorem Is:dX aO 73 0=some 0:=by kernel_rfl
theorem It:dX aO 73 1=some 1:=by kernel_rfl
theorem CJ:Bx aO 115=some [(0,1),(1,1),(2,1),(3,1)]:=by kernel_rfl
theorem HH:Bx aO 119=some [(0,1),(1,1),(2,1),(3,1)]:=by kernel_rfl
theorem zE:Bx aO 31=some [(0,1),(1,1)]:=by kernel_rfl
theorem LP:Bx aO 73=some [(0,1),(1,1)]:=by kernel_rfl
theorem LQ:Bx aO 89=some [(0,2),(2,1)]:=by kernel_rfl
theorem Ft:kw aO 113=some 119:=by kernel_rfl
theorem A9:kw aO 138=some 9:=by kernel_rfl
theorem vk:kw aO 36=some 115:=by kernel_rfl
theorem Kq:mx aO 113=some (false,1):=by kernel_rfl
theorem pM:mx aO 115=some (true,4):=by kernel_rfl
theorem FD:mx aO 119=some (true,4):=by kernel_rfl
theorem L9:mx aO 26=some (false,1):=by kernel_rfl
theorem DW:mx aO 89=some (true,3):=by kernel_rfl
theorem rK:jh aO 115=some [.bool false,.slice none 0 0,.int .i64 0,.int .i64 0]:=by kernel_rfl
theorem xK:jh aO 119=some [.bool false,.bool false,.int .i64 0,.int .i64 0]:=by kernel_rfl
theorem fE:jh aO 31=some [.int .i64 0,.string bW]:=by kernel_rfl
theorem Md:jh aO 73=some [.slice none 0 0,.int .i64 0]:=by kernel_rfl
theorem Cg:jh aO 89=some [.int .i64 0,.string bW,.string bW]:=by kernel_rfl
theorem KE:jh aO 9=some [.string bW]:=by kernel_rfl
theorem zj {W:World} {M T E:Nat→Prop} {n:Nat} {G:List (Nat×Value)} {D:List cc} {F:List bG} {a:Act} {w:World} {d:Option Nat} {t2:TypeId} {x y:Operand} {ty:TypeId} {pos:String} {af:Array Edge} {g:Option (Nat×Bool)} {p0 q0:Int} {p1 q1:ByteArray} (hS:St W M T n G D F a w) (hx:ev G x=some (.agg #[.int .i64 p0,.string p1])) (hy:ev G y=some (.agg #[.int .i64 q0,.string q1])):Ye aO ⟨d,.binOp .eql 31 x y t2,ty,pos,af,g⟩ a E w (.bool (p0==q0&&p1.toList==q1.toList)) :=
  Ye.of fun w=>by
    have h1:=hS.ev hx
    have h2:=hS.ev hy
    clear hS hx hy
    simp only [execOp,h1,h2,eqGuard]
    simp [go_sem]
    (repeat' split) <;> simp_all
theorem yo {W:World} {M T E:Nat→Prop} {n:Nat} {G:List (Nat×Value)} {D:List cc} {F:List bG} {a:Act} {w:World} {d:Option Nat} {t2:TypeId} {x y:Operand} {ty:TypeId} {pos:String} {af:Array Edge} {g:Option (Nat×Bool)} {p0 q0:Int} {p1 q1:ByteArray} (hS:St W M T n G D F a w) (hx:ev G x=some (.agg #[.int .i64 p0,.string p1])) (hy:ev G y=some (.agg #[.int .i64 q0,.string q1])):Ye aO ⟨d,.binOp .neq 31 x y t2,ty,pos,af,g⟩ a E w (.bool (!(p0==q0&&p1.toList==q1.toList))) :=
  Ye.of fun w=>by
    have h1:=hS.ev hx
    have h2:=hS.ev hy
    clear hS hx hy
    simp only [execOp,h1,h2,eqGuard]
    simp [go_sem]
    (repeat' split) <;> simp_all
end
section
open Go.RowKit
theorem Hj:aP aO 101=true:=by kernel_rfl
theorem Js:aP aO 113=true:=by kernel_rfl
theorem F5:aP aO 13=true:=by kernel_rfl
theorem Dk:aP aO 35=true:=by kernel_rfl
theorem Er:aP aO 36=true:=by kernel_rfl
theorem wG:aP aO 37=true:=by kernel_rfl
theorem KW:aP aO 38=true:=by kernel_rfl
theorem wH:aP aO 52=true:=by kernel_rfl
theorem F9:aP aO 55=true:=by kernel_rfl
theorem H5:aP aO 58=true:=by kernel_rfl
theorem Gb:aP aO 67=true:=by kernel_rfl
theorem Lc:aP aO 68=true:=by kernel_rfl
theorem Lo:aP aO 84=true:=by kernel_rfl
theorem JV:aP aO 89=true:=by kernel_rfl
theorem uP:aP aO 95=true:=by kernel_rfl
theorem Ix:dX aO 89 0=some 0:=by kernel_rfl
theorem Iy:dX aO 89 1=some 2:=by kernel_rfl
theorem IU:Bx aO 75=some [(0,2),(2,1),(3,1)]:=by kernel_rfl
theorem DR:kw aO 58=some 89:=by kernel_rfl
end
section
open Go.RowKit
structure aX where
  Key:ae
  Running:Bool
  At:Int
  Reads:(List ae)
  Answers:(List ByteArray)
def au:aR aX where
  size:=6
  rel:=fun T w cs x=>∃ v1 v2,cs=[.int .i64 x.Key.Kind,.string x.Key.Text,.bool x.Running,.int .i64 x.At,v1,v2]∧aC ac T w v1 x.Reads∧aC aR.str T w v2 x.Answers
  len:=by rintro _ _ _ _ ⟨v1,v2,rfl,hv1,hv2⟩; rfl
  one:=by rintro _ _ _ _ ⟨v1,v2,rfl,hv1,hv2⟩; exact (oc rfl (oc rfl (oc rfl (oc rfl (oc hv1.one (oc hv2.one on))))))
  keep:=by rintro _ _ _ _ _ _ ⟨v1,v2,rfl,hv1,hv2⟩ k n; exact⟨v1,v2,rfl,hv1.keep k n,hv2.keep k n⟩
structure cI where
  Rules:(List aI)
  Base:ai
  Goals:(List ae)
  Stack:(List aX)
  Ran:(List ae)
structure bY where
  Member:ae
  Read:ae
def eF:aR bY where
  size:=4
  rel:=fun _ _ cs x=>cs=[.int .i64 x.Member.Kind,.string x.Member.Text,.int .i64 x.Read.Kind,.string x.Read.Text]
  len:=by rintro _ _ _ _ rfl; rfl
  one:=by rintro _ _ _ _ rfl; exact (oc rfl (oc rfl (oc rfl (oc rfl on))))
  keep:=fun h _ _=>h
theorem Em:aP aO 108=true:=by kernel_rfl
theorem Hm:aP aO 112=true:=by kernel_rfl
theorem Jz:aP aO 133=true:=by kernel_rfl
theorem Hu:aP aO 134=true:=by kernel_rfl
theorem Hw:aP aO 139=true:=by kernel_rfl
theorem Hx:aP aO 140=true:=by kernel_rfl
theorem pO:aP aO 23=true:=by kernel_rfl
theorem H2:aP aO 33=true:=by kernel_rfl
theorem JM:aP aO 34=true:=by kernel_rfl
theorem K9:aP aO 60=true:=by kernel_rfl
theorem H6:aP aO 61=true:=by kernel_rfl
theorem Dl:aP aO 92=true:=by kernel_rfl
theorem JW:aP aO 93=true:=by kernel_rfl
theorem Ib:aP aO 94=true:=by kernel_rfl
theorem ub:Ar aO 120=some (150,6,88):=by kernel_rfl
theorem HB:Ar aO 154=some (158,4,48):=by kernel_rfl
theorem Gs:dX aO 122 0=some 0:=by kernel_rfl
theorem Gt:dX aO 122 1=some 1:=by kernel_rfl
theorem Gu:dX aO 122 2=some 4:=by kernel_rfl
theorem Gv:dX aO 122 3=some 5:=by kernel_rfl
theorem Gw:dX aO 122 4=some 6:=by kernel_rfl
theorem zo:dX aO 150 3=some 4:=by kernel_rfl
theorem zp:dX aO 150 4=some 5:=by kernel_rfl
theorem xZ:DB aO 97=some (31,4):=by kernel_rfl
theorem E2:Bx aO 122=some [(0,1),(1,3),(4,1),(5,1),(6,1)]:=by kernel_rfl
theorem Ke:Bx aO 158=some [(0,2),(2,2)]:=by kernel_rfl
theorem E4:Bx aO 33=some [(0,2),(2,1),(3,1),(4,1),(5,1),(6,1),(7,1)]:=by kernel_rfl
theorem se:kw aO 120=some 150:=by kernel_rfl
theorem HJ:mx aO 120=some (false,1):=by kernel_rfl
theorem qx:mx aO 122=some (true,7):=by kernel_rfl
theorem xr:mx aO 138=some (false,1):=by kernel_rfl
theorem sj:mx aO 150=some (true,6):=by kernel_rfl
theorem Ma:mx aO 36=some (false,1):=by kernel_rfl
theorem sC:jh aO 122=some [.slice none 0 0,.int .i64 0,.slice none 0 0,.slice none 0 0,.slice none 0 0,.slice none 0 0,.slice none 0 0]:=by kernel_rfl
theorem qD:jh aO 150=some [.int .i64 0,.string bW,.bool false,.int .i64 0,.slice none 0 0,.slice none 0 0]:=by kernel_rfl
theorem C7:jh aO 158=some [.int .i64 0,.string bW,.int .i64 0,.string bW]:=by kernel_rfl
theorem I8:HP aO 4=some (.bool false):=by kernel_rfl
def aM (a b:ae):Bool:=a.Kind==b.Kind&&a.Text.toList==b.Text.toList
theorem dv:uN aO 31 ac true aM where
  check:=by
    rintro b T w0 w c x rfl
    show (Instr.checkKey b (Nat.succ (Nat.succ 9998)) 31 _).run aO w=_
    generalize 9998=N
    simp [Instr.checkKey,bg,go_sem]
  eq:=by
    rintro T T2 w0 w1 w c d x y rfl rfl
    unfold aM Op.equal
    show (Op.equalIn (Nat.succ (Nat.succ 9998)) 31 _ _).run aO w=_
    generalize 9998=N
    simp [Op.equalIn,bg,beq_toListBytes,go_sem]
    (try (repeat' split) <;> simp_all)
  now:=⟨_,Tryz.underlying31,by rintro T T2 w0 w1 c d x y rfl rfl; first | (exact .inl rfl) | (right; unfold aM; simp [bg,Instr.sameNow,beq_toListBytes])⟩
  bits:=by
    rintro T T2 w0 w1 c d x y rfl rfl h
    unfold aM at h
    show Instr.sameBits (Nat.succ (Nat.succ 9998)) _ _=_
    generalize 9998=N
    simp [bg,Instr.sameBits,beq_toListBytes] at h ⊢
    simp [h]
end
section
open Go.RowKit
variable {pos:String} {af:Array Edge} {g:Option (Nat×Bool)}
class sR (P:Program) (t:TypeId) (b:outParam Bool) (z:outParam Nat):Prop where
 h:mx P t=some (b,z)
class n3 (P:Program) (s:TypeId) (f:Nat) (k:outParam Nat):Prop where
 h:dX P s f=some k
class Da (P:Program) (t:TypeId) (e:outParam TypeId):Prop where
 h:kw P t=some e
class HU (P:Program) (t:TypeId) (u:outParam TypeDesc):Prop where
 h:P.underlying t=some u
theorem fD {D:List bG} {r:bG} (h:∃ i:Nat,D[i]? = some r:=by first | exact⟨0,rfl⟩ | exact⟨1,rfl⟩ | exact⟨2,rfl⟩ | exact⟨3,rfl⟩ | exact⟨4,rfl⟩ | exact⟨5,rfl⟩ | exact⟨6,rfl⟩ | exact⟨7,rfl⟩ | exact⟨8,rfl⟩ | exact⟨9,rfl⟩ | exact⟨10,rfl⟩ | exact⟨11,rfl⟩ | exact⟨12,rfl⟩ | exact⟨13,rfl⟩ | exact⟨14,rfl⟩ | exact⟨15,rfl⟩ | exact⟨16,rfl⟩ | exact⟨17,rfl⟩ | exact⟨18,rfl⟩ | exact⟨19,rfl⟩ | exact⟨20,rfl⟩ | exact⟨21,rfl⟩ | exact⟨22,rfl⟩ | exact⟨23,rfl⟩ | exact⟨24,rfl⟩ | exact⟨25,rfl⟩ | exact⟨26,rfl⟩ | exact⟨27,rfl⟩ | exact⟨28,rfl⟩ | exact⟨29,rfl⟩):∃ i:Nat,D[i]? = some r:=h
theorem fR {D:List cc} {r:cc} (h:∃ i:Nat,D[i]? = some r:=by first | exact⟨0,rfl⟩ | exact⟨1,rfl⟩ | exact⟨2,rfl⟩ | exact⟨3,rfl⟩ | exact⟨4,rfl⟩ | exact⟨5,rfl⟩ | exact⟨6,rfl⟩ | exact⟨7,rfl⟩ | exact⟨8,rfl⟩ | exact⟨9,rfl⟩ | exact⟨10,rfl⟩ | exact⟨11,rfl⟩ | exact⟨12,rfl⟩ | exact⟨13,rfl⟩ | exact⟨14,rfl⟩ | exact⟨15,rfl⟩ | exact⟨16,rfl⟩ | exact⟨17,rfl⟩ | exact⟨18,rfl⟩ | exact⟨19,rfl⟩ | exact⟨20,rfl⟩ | exact⟨21,rfl⟩ | exact⟨22,rfl⟩ | exact⟨23,rfl⟩ | exact⟨24,rfl⟩ | exact⟨25,rfl⟩ | exact⟨26,rfl⟩ | exact⟨27,rfl⟩ | exact⟨28,rfl⟩ | exact⟨29,rfl⟩):∃ i:Nat,D[i]? = some r:=h
theorem tS (i:Nat) {D:List cc} {r:Option cc} (h:D[i]? = r):D[i]? = r:=h
theorem fI {D:List cc} {r:cc} {i:Nat} (h:D[i]? = some r:=by first | (refine tS 0 ?_; exact rfl) | (refine tS 1 ?_; exact rfl) | (refine tS 2 ?_; exact rfl) | (refine tS 3 ?_; exact rfl) | (refine tS 4 ?_; exact rfl) | (refine tS 5 ?_; exact rfl) | (refine tS 6 ?_; exact rfl) | (refine tS 7 ?_; exact rfl) | (refine tS 8 ?_; exact rfl) | (refine tS 9 ?_; exact rfl) | (refine tS 10 ?_; exact rfl) | (refine tS 11 ?_; exact rfl) | (refine tS 12 ?_; exact rfl) | (refine tS 13 ?_; exact rfl) | (refine tS 14 ?_; exact rfl) | (refine tS 15 ?_; exact rfl) | (refine tS 16 ?_; exact rfl) | (refine tS 17 ?_; exact rfl) | (refine tS 18 ?_; exact rfl) | (refine tS 19 ?_; exact rfl) | (refine tS 20 ?_; exact rfl) | (refine tS 21 ?_; exact rfl) | (refine tS 22 ?_; exact rfl) | (refine tS 23 ?_; exact rfl) | (refine tS 24 ?_; exact rfl) | (refine tS 25 ?_; exact rfl) | (refine tS 26 ?_; exact rfl) | (refine tS 27 ?_; exact rfl) | (refine tS 28 ?_; exact rfl) | (refine tS 29 ?_; exact rfl)):D[i]? = some r:=h
theorem kn {c b:Bool} (h:c=b:=by first | assumption | exact rfl | exact nt (by assumption) | exact nf (by assumption)):c=b:=h
def Tk (Z o:Nat) (cs us:ba):Prop:=(cs.drop o).take Z=us∧us.length=Z
def Cl (Z:Nat) (v:Value) (us:ba):Prop:=v.cells.toList=us∧us.length=Z
theorem M8 {o:Nat} {cs:ba} {v0:Value} (h:(cs.drop o).take 1=[v0]):Tk 1 o cs [v0]:=⟨h,rfl⟩
theorem Ml {v v0:Value} (h:v.cells.toList=[v0]):Cl 1 v [v0]:=⟨h,rfl⟩
theorem M9 {o:Nat} {cs:ba} {v0 v1:Value} (h:(cs.drop o).take 2=[v0,v1]):Tk 2 o cs [v0,v1]:=⟨h,rfl⟩
theorem di {v v0 v1:Value} (h:v.cells.toList=[v0,v1]):Cl 2 v [v0,v1]:=⟨h,rfl⟩
theorem Na {o:Nat} {cs:ba} {v0 v1 v2:Value} (h:(cs.drop o).take 3=[v0,v1,v2]):Tk 3 o cs [v0,v1,v2]:=⟨h,rfl⟩
theorem iN {v v0 v1 v2:Value} (h:v.cells.toList=[v0,v1,v2]):Cl 3 v [v0,v1,v2]:=⟨h,rfl⟩
theorem Nb {o:Nat} {cs:ba} {v0 v1 v2 v3:Value} (h:(cs.drop o).take 4=[v0,v1,v2,v3]):Tk 4 o cs [v0,v1,v2,v3]:=⟨h,rfl⟩
theorem uQ {v v0 v1 v2 v3:Value} (h:v.cells.toList=[v0,v1,v2,v3]):Cl 4 v [v0,v1,v2,v3]:=⟨h,rfl⟩
theorem Nc {o:Nat} {cs:ba} {v0 v1 v2 v3 v4:Value} (h:(cs.drop o).take 5=[v0,v1,v2,v3,v4]):Tk 5 o cs [v0,v1,v2,v3,v4]:=⟨h,rfl⟩
theorem vW {v v0 v1 v2 v3 v4:Value} (h:v.cells.toList=[v0,v1,v2,v3,v4]):Cl 5 v [v0,v1,v2,v3,v4]:=⟨h,rfl⟩
theorem Nf {o:Nat} {cs:ba} {v0 v1 v2 v3 v4 v5:Value} (h:(cs.drop o).take 6=[v0,v1,v2,v3,v4,v5]):Tk 6 o cs [v0,v1,v2,v3,v4,v5]:=⟨h,rfl⟩
theorem wi {v v0 v1 v2 v3 v4 v5:Value} (h:v.cells.toList=[v0,v1,v2,v3,v4,v5]):Cl 6 v [v0,v1,v2,v3,v4,v5]:=⟨h,rfl⟩
theorem Ng {o:Nat} {cs:ba} {v0 v1 v2 v3 v4 v5 v6:Value} (h:(cs.drop o).take 7=[v0,v1,v2,v3,v4,v5,v6]):Tk 7 o cs [v0,v1,v2,v3,v4,v5,v6]:=⟨h,rfl⟩
theorem vA {v v0 v1 v2 v3 v4 v5 v6:Value} (h:v.cells.toList=[v0,v1,v2,v3,v4,v5,v6]):Cl 7 v [v0,v1,v2,v3,v4,v5,v6]:=⟨h,rfl⟩
theorem Nh {o:Nat} {cs:ba} {v0 v1 v2 v3 v4 v5 v6 v7:Value} (h:(cs.drop o).take 8=[v0,v1,v2,v3,v4,v5,v6,v7]):Tk 8 o cs [v0,v1,v2,v3,v4,v5,v6,v7]:=⟨h,rfl⟩
theorem wI {v v0 v1 v2 v3 v4 v5 v6 v7:Value} (h:v.cells.toList=[v0,v1,v2,v3,v4,v5,v6,v7]):Cl 8 v [v0,v1,v2,v3,v4,v5,v6,v7]:=⟨h,rfl⟩
theorem Ni {o:Nat} {cs:ba} {v0 v1 v2 v3 v4 v5 v6 v7 v8:Value} (h:(cs.drop o).take 9=[v0,v1,v2,v3,v4,v5,v6,v7,v8]):Tk 9 o cs [v0,v1,v2,v3,v4,v5,v6,v7,v8]:=⟨h,rfl⟩
theorem zX {v v0 v1 v2 v3 v4 v5 v6 v7 v8:Value} (h:v.cells.toList=[v0,v1,v2,v3,v4,v5,v6,v7,v8]):Cl 9 v [v0,v1,v2,v3,v4,v5,v6,v7,v8]:=⟨h,rfl⟩
theorem L4 {o:Nat} {cs:ba} {v0 v1 v2 v3 v4 v5 v6 v7 v8 v9:Value} (h:(cs.drop o).take 10=[v0,v1,v2,v3,v4,v5,v6,v7,v8,v9]):Tk 10 o cs [v0,v1,v2,v3,v4,v5,v6,v7,v8,v9]:=⟨h,rfl⟩
theorem oI {v v0 v1 v2 v3 v4 v5 v6 v7 v8 v9:Value} (h:v.cells.toList=[v0,v1,v2,v3,v4,v5,v6,v7,v8,v9]):Cl 10 v [v0,v1,v2,v3,v4,v5,v6,v7,v8,v9]:=⟨h,rfl⟩
theorem L5 {o:Nat} {cs:ba} {v0 v1 v2 v3 v4 v5 v6 v7 v8 v9 v10:Value} (h:(cs.drop o).take 11=[v0,v1,v2,v3,v4,v5,v6,v7,v8,v9,v10]):Tk 11 o cs [v0,v1,v2,v3,v4,v5,v6,v7,v8,v9,v10]:=⟨h,rfl⟩
theorem Lw {v v0 v1 v2 v3 v4 v5 v6 v7 v8 v9 v10:Value} (h:v.cells.toList=[v0,v1,v2,v3,v4,v5,v6,v7,v8,v9,v10]):Cl 11 v [v0,v1,v2,v3,v4,v5,v6,v7,v8,v9,v10]:=⟨h,rfl⟩
theorem L6 {o:Nat} {cs:ba} {v0 v1 v2 v3 v4 v5 v6 v7 v8 v9 v10 v11:Value} (h:(cs.drop o).take 12=[v0,v1,v2,v3,v4,v5,v6,v7,v8,v9,v10,v11]):Tk 12 o cs [v0,v1,v2,v3,v4,v5,v6,v7,v8,v9,v10,v11]:=⟨h,rfl⟩
theorem qF {v v0 v1 v2 v3 v4 v5 v6 v7 v8 v9 v10 v11:Value} (h:v.cells.toList=[v0,v1,v2,v3,v4,v5,v6,v7,v8,v9,v10,v11]):Cl 12 v [v0,v1,v2,v3,v4,v5,v6,v7,v8,v9,v10,v11]:=⟨h,rfl⟩
theorem Mt {Z o:Nat} {cs us:ba} (h:Tk Z o cs us:=by first | ((with_reducible apply M8); exact rfl) | ((with_reducible apply M9); exact rfl) | ((with_reducible apply Na); exact rfl) | ((with_reducible apply Nb); exact rfl) | ((with_reducible apply Nc); exact rfl) | ((with_reducible apply Nf); exact rfl) | ((with_reducible apply Ng); exact rfl) | ((with_reducible apply Nh); exact rfl) | ((with_reducible apply Ni); exact rfl) | ((with_reducible apply L4); exact rfl) | ((with_reducible apply L5); exact rfl) | ((with_reducible apply L6); exact rfl)):Tk Z o cs us:=h
theorem LG {W:World} {M T:Nat→Prop} {n:Nat} {G:List (Nat×Value)} {D:List cc} {F:List bG} {v:Value} {a:Act} {w:World} {e:TypeId} {sz:Nat} {cl:ba} (hS:St W M T n G D F a w) (h:∃ i:Nat,D[i]? = some (.own v e sz cl)):v.oneCell'=true:=fV (hS.own _ (aH h.choose_spec)).1
theorem LH {W:World} {M T:Nat→Prop} {n:Nat} {G:List (Nat×Value)} {D:List cc} {F:List bG} {v:Value} {a:Act} {w:World} {α:Type} {R:aR α} {xs:List α} (hS:St W M T n G D F a w) (h:∃ i:Nat,F[i]? = some (aL R v xs)):v.oneCell'=true:=aC.one (hS.get h.choose h.choose_spec:aC R _ _ _ _)
theorem Kb {v:Value} (h:v.oneCell'=true:=by first | exact rfl | exact LG hS fR | exact LH hS fD):v.oneCell'=true:=h
theorem I7 {Z:Nat} {v:Value} {us:ba} (h:Cl Z v us:=by first | ((with_reducible apply Ml); exact rfl) | ((with_reducible apply di); exact rfl) | ((with_reducible apply iN); exact rfl) | ((with_reducible apply uQ); exact rfl) | ((with_reducible apply vW); exact rfl) | ((with_reducible apply wi); exact rfl) | ((with_reducible apply vA); exact rfl) | ((with_reducible apply wI); exact rfl) | ((with_reducible apply zX); exact rfl) | ((with_reducible apply oI); exact rfl) | ((with_reducible apply Lw); exact rfl) | ((with_reducible apply qF); exact rfl) | ((with_reducible apply Ml); exact lh Kb)):Cl Z v us:=h
theorem J9 {us:ba} (h:∀ u∈us,u.oneCell'=true:=by repeat (first | exact on | refine oc Kb ?_)):∀ u∈us,u.oneCell'=true:=h
def SQ (P:Program) (z:Code) (Q:Exit→Act→World→Prop):Exit→Act→World→Prop:=Exit.then (z.wp P Q) Q
section
variable {P:Program} {W:World} {M T:Nat→Prop} {n:Nat} {F:List bG}
def Yv (P:Program) (W:World) (M T:Nat→Prop) (n:Nat) (G:List (Nat×Value)) (D:List cc) (F:List bG) (E:Nat→Prop) (op:Op) (v:Value):Prop :=
 ∀ a w d ty pos af g,St W M T n G D F a w→Ye P ⟨d,op,ty,pos,af,g⟩ a E w v
section
variable {G:List (Nat×Value)} {D:List cc} {E:Nat→Prop} {x y z:Operand} {v:Value} {t t' s:TypeId}
theorem Yv.mv (hx:ev G x=some v):Yv P W M T n G D F E (.move x) v:=fun _ _ _ _ _ _ _ hS=>FN hS hx
theorem Yv.as (hx:ev G x=some v):Yv P W M T n G D F E (.assign x) v:=fun _ _ _ _ _ _ _ hS=>Bm hS hx
theorem Yv.bi {op:BinOp} {k:IntKind} {p q:Int} (hx:ev G x=some (.int k p)) (hy:ev G y=some (.int k q)) (hv:IG op k p q=some v):Yv P W M T n G D F E (.binOp op t x y t') v:=fun _ _ _ _ _ _ _ hS=>Bp hS hx hy hv
theorem Yv.bs {op:BinOp} {p q:ByteArray} (hx:ev G x=some (.string p)) (hy:ev G y=some (.string q)) (hv:IY op p q=some v):Yv P W M T n G D F E (.binOp op t x y t') v:=fun _ _ _ _ _ _ _ hS=>KB hS hx hy hv
theorem Yv.no {b:Bool} (hx:ev G x=some (.bool b)):Yv P W M T n G D F E (.unOp .not t x) (.bool !b):=fun _ _ _ _ _ _ _ hS=>Kz hS hx
theorem Yv.ng {k:IntKind} {p:Int} (hx:ev G x=some (.int k p)):Yv P W M T n G D F E (.unOp .neg t x) (.int k (k.wrap (0-p))):=fun _ _ _ _ _ _ _ hS=>Kx hS hx
theorem Yv.ex {i:Nat} {vs:Array Value} (hx:ev G x=some (.tuple vs)) (hv:vs[i]? = some v):Yv P W M T n G D F E (.extract x i) v:=fun _ _ _ _ _ _ _ hS=>Mc hS hx hv
theorem Yv.nl {p:Addr} (hx:ev G x=some (.pointer (some p))):Yv P W M T n G D F E (.nilCheck x) (.pointer (some p)):=fun _ _ _ _ _ _ _ hS=>Ky hS hx
theorem Yv.fl {f k b o:Nat} [c:n3 P s f k] (hx:ev G x=some (.pointer (some ⟨b,o,none⟩))):Yv P W M T n G D F E (.fieldAddr s x f) (.pointer (some ⟨b,o+k,none⟩)):=fun _ _ _ _ _ _ _ hS=>Bo hS hx c.h
theorem Yv.pt {b:Bool} (hz:ev G z=some (.bool b)) (hb:b=true) (hx:ev G x=some v):Yv P W M T n G D F E (.pick z x y) v:=fun _ _ _ _ _ _ _ hS=>Ha hS hz hb hx
theorem Yv.pf {b:Bool} (hz:ev G z=some (.bool b)) (hb:b=false) (hy:ev G y=some v):Yv P W M T n G D F E (.pick z x y) v:=fun _ _ _ _ _ _ _ hS=>G9 hS hz hb hy
theorem Yv.cv {k k' ks:IntKind} {p:Int} [hs:HU P s (.int ks)] [ht:HU P t (.int k')] (hx:ev G x=some (.int k p)):Yv P W M T n G D F E (.convert s t x) (.int k' (k'.wrap p)):=fun _ _ _ _ _ _ _ hS=>I2 hS hx hs.h ht.h
theorem Yv.ls {p:ByteArray} [ht:HU P t .string] (hx:ev G x=some (.string p)):Yv P W M T n G D F E (.call { callee:=.builtin .len,args:=#[x],argTypes:=#[t] }) (.int .i64 p.size):=fun _ _ _ _ _ _ _ hS=>I3 hS ht.h hx
theorem Yv.ll {e:TypeId} {α:Type} {R:aR α} {xs:List α} [ht:Da P t e] (hx:ev G x=some v) (hF:∃ i:Nat,F[i]? = some (aL R v xs)):Yv P W M T n G D F E (.call { callee:=.builtin .len,args:=#[x],argTypes:=#[t] }) (.int .i64 xs.length):=fun _ _ _ _ _ _ _ hS=>HM hS ht.h hx hF.choose hF.choose_spec
theorem Yv.lo {e e':TypeId} {cl:ba} {α:Type} {R:aR α} {xs:List α} [ht:Da P t e] (hx:ev G x=some v) (hD:∃ j:Nat,D[j]? = some (.own v e' R.size cl)) (hF:∃ i:Nat,F[i]? = some (an R cl xs)):Yv P W M T n G D F E (.call { callee:=.builtin .len,args:=#[x],argTypes:=#[t] }) (.int .i64 xs.length):=fun _ _ _ _ _ _ _ hS=>FL hS ht.h hx hD.choose hD.choose_spec hF.choose hF.choose_spec
theorem Yv.la {Z b o:Nat} {cs us:ba} {bt:TypeId} [c:sR P t true Z] (hx:ev G x=some (.pointer (some ⟨b,o,none⟩))) (hD:∃ i:Nat,D[i]? = some (.box b cs bt)) (hE:¬ E b) (hu:Tk Z o cs us):Yv P W M T n G D F E (.load t x) (.agg us.toArray):=fun _ _ _ _ _ _ _ hS=>dh hS hx c.h hD.choose hD.choose_spec hE hu.1 hu.2 (fun h=>by cases h)
theorem Yv.l1 {b o:Nat} {cs:ba} {bt:TypeId} [c:sR P t false 1] (hx:ev G x=some (.pointer (some ⟨b,o,none⟩))) (hD:∃ i:Nat,D[i]? = some (.box b cs bt)) (hE:¬ E b) (hu:(cs.drop o).take 1=[v]):Yv P W M T n G D F E (.load t x) v:=fun _ _ _ _ _ _ _ hS=>dh (us:=[v]) hS hx c.h hD.choose hD.choose_spec hE hu rfl (fun _=>rfl)
theorem Yv.ca {Z b o k p:Nat} {cs us:ba} [c:sR P t true Z] (hx:ev G x=some (.pointer (some ⟨b,p,none⟩))) (hF:∃ i:Nat,F[i]? = some (ji b o cs)) (hp:o+k=p) (hE:∀ a w,St W M T n G D F a w→∀ j,E j→dT T D j∨w.heap.size≤j) (hu:Tk Z k cs us):Yv P W M T n G D F E (.load t x) (.agg us.toArray):=fun a w _ _ _ _ _ hS=>by
 subst hp;exact uK hS c.h hF.choose hF.choose_spec hx (hE a w hS) hu.1 hu.2 (fun h=>by cases h)
theorem Yv.c1 {b o k p:Nat} {cs:ba} [c:sR P t false 1] (hx:ev G x=some (.pointer (some ⟨b,p,none⟩))) (hF:∃ i:Nat,F[i]? = some (ji b o cs)) (hp:o+k=p) (hE:∀ a w,St W M T n G D F a w→∀ j,E j→dT T D j∨w.heap.size≤j) (hu:(cs.drop k).take 1=[v]):Yv P W M T n G D F E (.load t x) v:=fun a w _ _ _ _ _ hS=>by
 subst hp;exact uK (us:=[v]) hS c.h hF.choose hF.choose_spec hx (hE a w hS) hu rfl (fun _=>rfl)
theorem Mm {ops:Array Oper} {mods:List (Nat×Tn)} {ls:Array Bool} {i k:Nat} (h:rem ops mods ls i=[]:=by first | exact rfl | kernel_rfl):¬ Eo (rem ops mods ls i) k:=by rw [h]; exact bn
theorem Mn {ops:Array Oper} {mods:List (Nat×Tn)} {ls:Array Bool} {i:Nat} (h:rem ops mods ls i=[]:=by first | exact rfl | kernel_rfl):∀ a w,St W M T n G D F a w→∀ j,Eo (rem ops mods ls i) j→dT T D j∨w.heap.size≤j:=by rw [h]; exact fun _ _ _=>BO
theorem Yv.e {d:Option Nat} {ty:TypeId} {op:Op} {a:Act} {w:World} (h:Yv P W M T n G D F E op v) (hS:St W M T n G D F a w):Ye P ⟨d,op,ty,pos,af,g⟩ a E w v:=h a w d ty pos af g hS
theorem yA {op:Op} (h:Yv P W M T n G D F E op v:=by
 first
  | ((with_reducible apply Yv.mv); exact rfl)
  | ((with_reducible apply Yv.bi); exact rfl; exact rfl; exact rfl)
  | ((with_reducible apply Yv.as); exact rfl)
  | ((with_reducible apply Yv.fl); exact rfl)
  | ((with_reducible apply Yv.l1); exact rfl; exact fR; (first | exact id | exact Mm); exact rfl)
  | ((with_reducible apply Yv.la); exact rfl; exact fR; (first | exact id | exact Mm); exact Mt)
  | ((with_reducible apply Yv.c1); exact rfl; exact fD; (first | exact qC _ | exact rfl | exact (vL _ _ _).symm); (first | exact (fun _ _ _ _ h=>h.elim) | exact Mn); exact rfl)
  | ((with_reducible apply Yv.ca); exact rfl; exact fD; (first | exact qC _ | exact rfl | exact (vL _ _ _).symm); (first | exact (fun _ _ _ _ h=>h.elim) | exact Mn); exact Mt)
  | ((with_reducible apply Yv.pt); exact rfl; exact kn; exact rfl)
  | ((with_reducible apply Yv.pf); exact rfl; exact kn; exact rfl)
  | ((with_reducible apply Yv.ex); exact rfl; exact rfl)
  | ((with_reducible apply Yv.no); exact rfl)
  | ((with_reducible apply Yv.nl); exact rfl)
  | ((with_reducible apply Yv.bs); exact rfl; exact rfl; exact rfl)
  | ((with_reducible apply Yv.ll); exact rfl; exact fD)
  | ((with_reducible apply Yv.lo); exact rfl; exact fR; exact fD)
  | ((with_reducible apply Yv.ls); exact rfl)
  | ((with_reducible apply Yv.cv); exact rfl)
  | ((with_reducible apply Yv.ng); exact rfl)):Yv P W M T n G D F E op v:=h
end
def Rn (W:World) (M T:Nat→Prop) (n:Nat) (F:List bG) (b:Bool) (G:List (Nat×Value)) (D:List cc) (X:Act→World→Prop) (G':List (Nat×Value)) (D':List cc) (X':Act→World→Prop):Prop :=
 ∀ w,(∀ a w',(b=true→w'=w)→St W M T n G' D' F a w'→X' a w')→∀ a,St W M T n G D F a w→X a w
section
variable {b:Bool} {G G':List (Nat×Value)} {D D':List cc} {X X' K:Act→World→Prop} {Q:Exit→Act→World→Prop} {ops:Array Oper} {l:List Oper} {op:Op} {v:Value} {d j t:Nat} {ty tt:TypeId} {pos:String} {af:Array Edge} {want c:Bool} {x y z:Code} {id:Nat} {u:Operand}
theorem Rn.fin:Rn W M T n F b G D X G D X:=fun w k a hS=>k a w (fun _=>rfl) hS
theorem Rn.yv (h:Yv P W M T n G D F No op v) (hn:Nat.blt d n=true) (k:Rn W M T n F b ((d,v)::G) D (wpList P ops Q l) G' D' X'):Rn W M T n F b G D (wpList P ops Q (⟨some d,op,ty,pos,af,none⟩::l)) G' D' X' :=
 fun w K a hS=>wy hS (h a w _ _ _ _ _ hS) rfl rfl hn fun a hS=>k w K a hS
def Jb (u:Value) (want:Bool) (A B:Prop):Prop:=(∃ c,u = .bool c∧c=want∧A)∨(((∃ c,u = .bool c∧c = !want)∨u=undef)∧B)
theorem Lz {A B:Prop} (h:c=want) (k:A):Jb (.bool c) want A B:=.inl ⟨c,rfl,h,k⟩
theorem Ly {A B:Prop} (h:c = !want) (k:B):Jb (.bool c) want A B:=.inr ⟨.inl ⟨c,rfl,h⟩,k⟩
theorem LA {A B:Prop} (k:B):Jb undef want A B:=.inr ⟨.inr rfl,k⟩
theorem Cd {o:Oper} {g:Option (Nat×Bool)} {a:Act} {w:World} {rest:List Oper} (h:wpList P ops Q ({ o with guard:=none } :: rest) a w) (hw:Region.wanted { o with guard:=g } (yielded ops a.tmps)=true):wpList P ops Q ({ o with guard:=g } :: rest) a w:=by
 unfold wpList at h ⊢;rw [if_pos hw];rw [if_pos (by simp [Region.wanted])] at h;exact h
theorem Rn.gd {uv:Value} (hj:(ops[j]?).bind (·.dst)=some t) (ht:lk G t=some uv) (hn:Nat.blt d n=true)
  (k:Jb uv want (Rn W M T n F b G D (wpList P ops Q (⟨some d,op,ty,pos,af,none⟩::l)) G' D' X') (Rn W M T n F b ((d,undef)::G) D (wpList P ops Q l) G' D' X')):Rn W M T n F b G D (wpList P ops Q (⟨some d,op,ty,pos,af,some (j,want)⟩::l)) G' D' X':=by
 intro w K a hS;rcases k with⟨c,h1,h2,k⟩|⟨h1 | h1,k⟩
 ·subst h1;exact Cd (o:=⟨some d,op,ty,pos,af,none⟩) (k w K a hS) (by rw [m5 hS rfl hj ht,h2]; simp)
 ·obtain⟨c,h1,h2⟩:=h1;subst h1;exact wn hS rfl hj ht h2 rfl hn fun a hS=>k w K a hS
 ·subst h1;exact Nj hS rfl hj ht rfl hn fun a hS=>k w K a hS
theorem Rn.st {ag:Bool} {Z bb o:Nat} {cs us:ba} {bt:TypeId} {xx yy:Operand} [ct:sR P tt ag Z] {i:Nat} (hx:ev G xx=some (.pointer (some ⟨bb,o,none⟩))) (hi:D[i]? = some (.box bb cs bt)) (hy:ev G yy=some v)
  (h1:∀ a w,St W M T n G D F a w→Cl Z v us) (h2:∀ a w,St W M T n G D F a w→∀ u∈us,u.oneCell'=true) (hl:Nat.ble (o+Z) cs.length=true) (k:Rn W M T n F false G (D.set i (.box bb (kT cs o us) bt)) (wpList P ops Q l) G' D' X'):Rn W M T n F false G D (wpList P ops Q (⟨none,.store tt xx yy,ty,pos,af,none⟩::l)) G' D' X' :=
 fun w K a hS=>wl rfl (qK hS hx hy (h1 a w hS).1 ct.h i hi (h1 a w hS).2 hl (h2 a w hS) fun w hk hS=>k w (fun a w' _ hS=>K a w' (fun h=>by cases h) hS) _ hS)
theorem ay {a:Act} {w:World} (h:x.wp P (SQ P z Q) a w):(Code.seq x z).wp P Q a w:=wp_seq h
theorem Rn.rq (hg:(l.all fun o=>o.guard.isNone)=true) (k:Rn W M T n F b G D (wpList P l.toArray (SQ P z Q) l) G' D' X'):Rn W M T n F b G D (Code.wp P (Code.seq (Code.region id l.toArray false) z) Q) G' D' X':=fun w K a hS=>wp_seq (wp_region_lit (k w K a hS))
theorem jg {l:List Oper} {a:Act} {w:World} (h:wpList P l.toArray (SQ P z Q) l a w):(Code.seq (Code.region id l.toArray false) z).wp P Q a w:=wp_seq (wp_region_lit h)
theorem Rn.rl (k:Rn W M T n F b G D (wpList P l.toArray Q l) G' D' X'):Rn W M T n F b G D (Code.wp P (Code.region id l.toArray false) Q) G' D' X':=fun w K a hS=>wp_region_lit (k w K a hS)
theorem Rn.rz (k:Rn W M T n F b G D (Q .normal) G' D' X'):Rn W M T n F b G D (wpList P ops Q []) G' D' X':=fun w K a hS=>wpList_nil (k w K a hS)
theorem Rn.sq (k:Rn W M T n F b G D (z.wp P Q) G' D' X'):Rn W M T n F b G D (SQ P z Q .normal) G' D' X':=k
theorem Rn.th (k:Rn W M T n F b G D (K) G' D' X'):Rn W M T n F b G D (Exit.then K Q .normal) G' D' X':=k
theorem Rn.ib (k:Rn W M T n F b G D (Q .normal) G' D' X'):Rn W M T n F b G D (Exit.inBlock id Q .normal) G' D' X':=k
theorem Rn.sk (k:Rn W M T n F b G D (Q .normal) G' D' X'):Rn W M T n F b G D (Code.wp P .skip Q) G' D' X':=fun w K a hS=>wp_skip (k w K a hS)
theorem Rn.bl (k:Rn W M T n F b G D (x.wp P (Exit.inBlock id Q)) G' D' X'):Rn W M T n F b G D (Code.wp P (.block id x) Q) G' D' X':=fun w K a hS=>wp_block (k w K a hS)
theorem Rn.ct (hu:ev G u=some (.bool c)) (hc:c=true) (k:Rn W M T n F b G D (x.wp P Q) G' D' X'):Rn W M T n F b G D (Code.wp P (.cond u x y) Q) G' D' X':=fun w K a hS=>Mj hS hu hc (k w K a hS)
theorem Rn.cf (hu:ev G u=some (.bool c)) (hc:c=false) (k:Rn W M T n F b G D (y.wp P Q) G' D' X'):Rn W M T n F b G D (Code.wp P (.cond u x y) Q) G' D' X':=fun w K a hS=>KO hS hu hc (k w K a hS)
theorem Rn.xt (k:Rn W M T n F b G D (Q (.exit j)) G' D' X'):Rn W M T n F b G D (Code.wp P (.exit j) Q) G' D' X':=fun w K a hS=>wp_exit (k w K a hS)
theorem Rn.rt (k:Rn W M T n F b G D (Q .ret) G' D' X'):Rn W M T n F b G D (Code.wp P .ret Q) G' D' X':=fun w K a hS=>wp_ret (k w K a hS)
theorem Rn.sqr (k:Rn W M T n F b G D (Q .ret) G' D' X'):Rn W M T n F b G D (SQ P z Q .ret) G' D' X':=k
theorem Rn.sqe (k:Rn W M T n F b G D (Q (.exit j)) G' D' X'):Rn W M T n F b G D (SQ P z Q (.exit j)) G' D' X':=k
theorem Rn.thr (k:Rn W M T n F b G D (Q .ret) G' D' X'):Rn W M T n F b G D (Exit.then K Q .ret) G' D' X':=k
theorem Rn.the (k:Rn W M T n F b G D (Q (.exit j)) G' D' X'):Rn W M T n F b G D (Exit.then K Q (.exit j)) G' D' X':=k
theorem Rn.ibr (k:Rn W M T n F b G D (Q .ret) G' D' X'):Rn W M T n F b G D (Exit.inBlock id Q .ret) G' D' X':=k
theorem Rn.ibt (h:Nat.beq j id=true) (k:Rn W M T n F b G D (Q .normal) G' D' X'):Rn W M T n F b G D (Exit.inBlock id Q (.exit j)) G' D' X':=fun w K a hS=>by
 have h2:=k w K a hS;simp only [Exit.inBlock];rw [if_pos (xI h)]; exact h2
theorem Rn.ibf (h:Nat.beq j id=false) (k:Rn W M T n F b G D (Q (.exit j)) G' D' X'):Rn W M T n F b G D (Exit.inBlock id Q (.exit j)) G' D' X':=fun w K a hS=>by
 have h2:=k w K a hS;simp only [Exit.inBlock];rw [if_neg (fun e=>by rw [e] at h; simp at h)]; exact h2
theorem MA (h:Rn W M T n F b G D X G' D' X':=by
 repeat (first
 | ((with_reducible apply Rn.yv); exact yA; exact rfl)
 | ((with_reducible apply Rn.gd); exact rfl; exact rfl; exact rfl; (first | apply LA | (apply Lz; exact kn; (first | ((with_reducible apply Rn.yv); exact yA; exact rfl) | ((with_reducible apply Rn.st); exact rfl; exact fI; exact rfl; exact (fun a w hS=>I7); exact (fun a w hS=>J9); exact rfl))) | (apply Ly; exact kn)))
 | ((with_reducible apply Rn.st); exact rfl; exact fI; exact rfl; exact (fun a w hS=>I7); exact (fun a w hS=>J9); exact rfl)
 | (with_reducible apply Rn.rz)
 | (with_reducible apply Rn.sq)
 | (with_reducible apply Rn.th)
 | (with_reducible apply Rn.ib)
 | (with_reducible apply Rn.sk)
 | ((with_reducible apply Rn.ct); exact rfl; exact kn)
 | ((with_reducible apply Rn.cf); exact rfl; exact kn))
 exact Rn.fin):Rn W M T n F b G D X G' D' X':=h
theorem Mh (h:Rn W M T n F b G D X G' D' X':=by
 repeat (first
 | ((with_reducible apply Rn.yv); exact yA; exact rfl)
 | ((with_reducible apply Rn.gd); exact rfl; exact rfl; exact rfl; (first | apply LA | (apply Lz; exact kn; (first | ((with_reducible apply Rn.yv); exact yA; exact rfl) | ((with_reducible apply Rn.st); exact rfl; exact fI; exact rfl; exact (fun a w hS=>I7); exact (fun a w hS=>J9); exact rfl))) | (apply Ly; exact kn)))
 | ((with_reducible apply Rn.st); exact rfl; exact fI; exact rfl; exact (fun a w hS=>I7); exact (fun a w hS=>J9); exact rfl)
 | (with_reducible apply Rn.rz)
 | ((with_reducible apply Rn.rq); exact rfl)
 | (with_reducible apply Rn.sq)
 | (with_reducible apply Rn.th)
 | (with_reducible apply Rn.ib)
 | (with_reducible apply Rn.sk)
 | (with_reducible apply Rn.bl)
 | ((with_reducible apply Rn.ct); exact rfl; exact kn)
 | ((with_reducible apply Rn.cf); exact rfl; exact kn)
 | (with_reducible apply Rn.rl)
 | (with_reducible apply Rn.rt)
 | (with_reducible apply Rn.xt)
 | (with_reducible apply Rn.sqr)
 | (with_reducible apply Rn.thr)
 | (with_reducible apply Rn.ibr)
 | (with_reducible apply Rn.sqe)
 | (with_reducible apply Rn.the)
 | ((with_reducible apply Rn.ibt); exact rfl)
 | ((with_reducible apply Rn.ibf); exact rfl))
 exact Rn.fin):Rn W M T n F b G D X G' D' X':=h
def Mp (ops:Array Oper) (listed:Array Bool) (i:Nat):Bool:=Region.free .any ops listed i&&(Region.ready .any ops listed).contains i
def Re (P:Program) (ops:Array Oper) (Q:Exit→Act→World→Prop) (mods:List (Nat×Tn)) (W:World) (M T:Nat→Prop) (n:Nat) (D:List cc) (F:List bG) (is:List Nat) (fuel:Nat) (ls:Array Bool) (G:List (Nat×Value)) (fuel':Nat) (ls':Array Bool) (G':List (Nat×Value)):Prop :=
 ∀ a w,Region.noSelect ops=true→Qp Q→St W M T n G D F a w→(∀ a,St W M T n G' D F a w→qE P ops Q mods fuel' ls' a w)→qE P ops Q mods fuel ls a w
section
variable {mods:List (Nat×Tn)} {fuel fuel' i:Nat} {ls ls':Array Bool} {is:List Nat}
theorem Re.en:Re P ops Q mods W M T n D F [] fuel ls G fuel ls G:=fun a w _ _ hS k=>k a hS
theorem Re.va {f:Nat} (hfu:fuel=f+1) (hi:ops[i]? = some ⟨some d,op,ty,pos,af,none⟩) (h:Yv P W M T n G D F (Eo (rem ops mods ls i)) op v) (hn:Nat.blt d n=true) (hr:Mp ops ls i=true) (k:Re P ops Q mods W M T n D F is f (ls.setIfInBounds i true) ((d,v)::G) fuel' ls' G'):Re P ops Q mods W M T n D F (i::is) fuel ls G fuel' ls' G' :=
 fun a w hs hQ hS K=>hfu▸dy i hi hs (Bool.and_eq_true_iff.1 hr).1 (Bool.and_eq_true_iff.1 hr).2 rfl hQ hS (h a w _ _ _ _ _ hS) rfl rfl hn fun a hS=>k a w hs hQ hS K
theorem Re.gu {uv:Value} {f:Nat} (hfu:fuel=f+1) (hi:ops[i]? = some ⟨some d,op,ty,pos,af,some (j,want)⟩) (hj:(ops[j]?).bind (·.dst)=some t) (ht:lk G t=some uv) (hn:Nat.blt d n=true) (hr:Mp ops ls i=true)
  (k:Jb uv want (∃ v,Yv P W M T n G D F (Eo (rem ops mods ls i)) op v∧Re P ops Q mods W M T n D F is f (ls.setIfInBounds i true) ((d,v)::G) fuel' ls' G') (Re P ops Q mods W M T n D F is f (ls.setIfInBounds i true) ((d,undef)::G) fuel' ls' G')):Re P ops Q mods W M T n D F (i::is) fuel ls G fuel' ls' G':=by
 intro a w hs hQ hS K;subst hfu;have h1:=Bool.and_eq_true_iff.1 hr;rcases k with⟨c,e1,e2,v,h,k⟩|⟨e1 | e1,k⟩
 ·subst e1;exact wO i hi hs h1.1 h1.2 rfl hQ hS (h a w _ _ _ _ _ hS) rfl hj ht e2 rfl hn fun a hS=>k a w hs hQ hS K
 ·obtain⟨c,e1,e2⟩:=e1;subst e1;exact ME i hi hs h1.1 h1.2 hQ hS rfl hj ht e2 rfl hn fun a hS=>k a w hs hQ hS K
 ·subst e1;exact Lx i hi hs h1.1 h1.2 hQ hS rfl hj ht rfl hn fun a hS=>k a w hs hQ hS K
theorem gE (is:List Nat) {a:Act} {w:World} (hS:St W M T n G D F a w) (k:∀ a,St W M T n G' D F a w→qE P ops Q mods fuel' ls' a w) (h:Re P ops Q mods W M T n D F is fuel ls G fuel' ls' G':=by
 repeat (first
 | ((with_reducible apply Re.va); exact rfl; exact rfl; exact yA; exact rfl; kernel_rfl)
 | ((with_reducible apply Re.gu); exact rfl; exact rfl; exact rfl; exact rfl; exact rfl; kernel_rfl; (first | apply LA | (apply Lz; exact kn; refine⟨_,yA,?_⟩) | (apply Ly; exact kn))))
 exact Re.en) (hs:Region.noSelect ops=true:=by kernel_rfl) (hQ:Qp Q:=by assumption):qE P ops Q mods fuel ls a w:=h a w hs hQ hS k
end
def xQ (F:List bG):List Nat→List bG→Prop
 | _,[]=>True
 | [],_::_=>False
 | j::js,f::F'=>F[j]? = some f∧xQ F js F'
theorem xQ.to {F:List bG}:∀ {js:List Nat} {F':List bG},xQ F js F'→z8 F F'
 | _,[],_=>trivial
 | [],_::_,h=>h.elim
 | j::js,f::F',h=>⟨⟨j,h.1⟩,h.2.to⟩
theorem M6 {F:List bG}:xQ F [] []:=trivial
theorem M5 {F F':List bG} {j:Nat} {js:List Nat} {f:bG} (h:F[j]? = some f) (k:xQ F js F'):xQ F (j::js) (f::F'):=⟨h,k⟩
theorem Ms {F F':List bG} {js:List Nat} (h:xQ F js F':=by repeat (first | exact M6 | (apply M5; exact rfl))):xQ F js F':=h
theorem Mr:lL D [] []:=trivial
theorem Mq {i:Nat} {is:List Nat} {r:cc} (h:D[i]? = some r) (k:lL D is D'):lL D (i::is) (r::D'):=⟨h,k⟩
theorem Kl {is:List Nat} (h:lL D is D':=by repeat (first | exact Mr | (apply Mq; exact rfl))):lL D is D':=h
theorem lL.app:∀ {is js:List Nat} {D0 D1:List cc},lL D is D0→lL D js D1→lL D (is++js) (D0++D1)
 | [],_,[],_,_,k=>k
 | [],_,_::_,_,h,_=>h.elim
 | _::_,_,[],_,h,_=>h.elim
 | _::_,_,_::_,_,h,k=>⟨h.1,lL.app h.2 k⟩
section
variable {F':List bG} {a:Act} {w:World} {D0 D1:List cc} {α β:Type} {R:aR α} {R2:aR β} {xs:List α} {ys:List β} {vv v2:Value} {cl di:ba} {e e2:TypeId}
theorem St.mt (h:St W M T n G D F a w) (is js:List Nat) (hG:He G G':=by repeat (first | exact trivial | refine⟨rfl,?_⟩)) (hD:lL D is D':=by exact Kl) (hF:xQ F js F':=by exact Ms) (hn:is.Nodup:=by decide):St W M T n G' D' F' a w:=h.meet is hn hG hD hF.to
theorem St.sl (h:St W M T n G D F a w) (is js:List Nat) (hD:lL D is D':=by exact Kl) (hF:xQ F js F':=by exact Ms) (hn:is.Nodup:=by decide):St W M T n [] D' F' a w:=h.meet is hn trivial hD hF.to
theorem St.rd (h:St W M T n G D F a w) (is:List Nat) (hD:lL D is D':=by exact Kl) (hn:is.Nodup:=by decide):St W M T n G D' F a w:=h.reD is hn hD
theorem St.re (h:St W M T n G D F a w) (is js:List Nat) (h0:lL D is D0:=by exact Kl) (h1:lL D js D1:=by exact Kl) (hn:(is++js).Nodup:=by decide):St W M T n G (D0++D1) F a w:=h.reD (is++js) hn (h0.app h1)
theorem St.fS (h:St W M T n G D F a w) (k:aC R (dT T D) w vv xs):St W M T n G D (aL R vv xs::F) a w:=h.fact (aL R vv xs) k
theorem St.fR (h:St W M T n G D F a w) (k:az R (dT T D) w cl xs):St W M T n G D (an R cl xs::F) a w:=h.fact (an R cl xs) k
theorem St.fM {κ ν:Type} {RK:aR κ} {ak:Bool} {RV:aR ν} {av:Bool} {es:Array MapEntry} {ms:List (κ×ν)} (h:St W M T n G D F a w) (k:bw RK ak RV av (dT T D) w es ms):St W M T n G D (nA RK ak RV av es ms::F) a w:=h.fact (nA RK ak RV av es ms) k
theorem ce {w':World} (hA:∀ rs:List cc,(∀ r∈rs,r.ok w'∧∀ k,r.dom k→w.heap.size≤k)→(rs.Pairwise fun r s=>∀ k,r.dom k→¬ s.dom k)→St W M T n G (rs++D) F a w'):St W M T n G D F a w':=hA [] (fun r hr=>by cases hr) vr
theorem pz {w':World} (hA:∀ rs:List cc,(∀ r∈rs,r.ok w'∧∀ k,r.dom k→w.heap.size≤k)→(rs.Pairwise fun r s=>∀ k,r.dom k→¬ s.dom k)→St W M T n G (rs++D) F a w') (h:ge R (dT T D) w w' [.own vv e R.size cl] e vv cl xs) (h0:0<R.size:=by decide):St W M T n G ([.own vv e R.size cl]++D) (an R cl xs::F) a w' :=
 (hA [.own vv e R.size cl] (jj ⟨h.1,h0⟩ h.2.1) (xa _)).fact (an R cl xs) (h.2.2.keep (aj _ _) (ob _))
theorem xN {w':World} (hA:∀ rs:List cc,(∀ r∈rs,r.ok w'∧∀ k,r.dom k→w.heap.size≤k)→(rs.Pairwise fun r s=>∀ k,r.dom k→¬ s.dom k)→St W M T n G (rs++D) F a w') (h:ge R (dT T D) w w' [.own vv e R.size cl,.own v2 e2 R2.size di] e vv cl xs) (k:ge R2 (dT T D) w w' [.own vv e R.size cl,.own v2 e2 R2.size di] e2 v2 di ys) (hp:∀ k,vv.ownBlock=some k→v2.ownBlock≠some k) (h0:0<R.size:=by decide) (k0:0<R2.size:=by decide):St W M T n G ([.own vv e R.size cl,.own v2 e2 R2.size di]++D) (an R2 di ys::an R cl xs::F) a w' :=
 ((hA [.own vv e R.size cl,.own v2 e2 R2.size di] (Jl ⟨h.1,h0⟩ h.2.1 ⟨k.1,k0⟩ k.2.1) (M3 hp)).fact (an R cl xs) (h.2.2.keep (aj _ _) (ob _))).fact (an R2 di ys) (k.2.2.keep (aj _ _) (ob _))
theorem M4 {is:List Nat} (h:lL D is D':=by repeat (first | exact Mr | (apply Mq; exact fI))):lL D is D':=h
theorem St.mtS {is:List Nat} (h:St W M T n G D F a w) (hG:He G G':=by repeat (first | exact trivial | refine⟨rfl,?_⟩)) (hD:lL D is D':=by exact M4) (hF:z8 F F':=by repeat (first | exact trivial | refine⟨fD,?_⟩)) (hn:is.Nodup:=by decide):St W M T n G' D' F' a w:=h.meet is hn hG hD hF
end
theorem lo {S R Y:Type} {u r:R} {f:Fl S R} {k:R→Option Y} {y:Y} (hM:some (Fl.out u)=some f) (hf:∀ u,f = .out u→u=r) (hk:k r=some y):k u=some y:=by
 rw [hf u (bO hM).symm]; exact hk
theorem J6 {S R Y S2:Type} {s:S2} {r:Fl S2 R} {f:Fl S (Fl S2 R)} {p:S2→Option Y} {q:R→Option Y} {y:Y} (hM:some (Fl.out (Fl.go s))=some f) (hf:∀ u,f = .out u→u=r) (hk:Fl.el r p q=some y):p s=some y:=by
 have h:=hf _ (bO hM).symm;subst h; exact hk
theorem HE {S R Y S2:Type} {s:R} {r:Fl S2 R} {f:Fl S (Fl S2 R)} {p:S2→Option Y} {q:R→Option Y} {y:Y} (hM:some (Fl.out (Fl.out s))=some f) (hf:∀ u,f = .out u→u=r) (hk:Fl.el r p q=some y):q s=some y:=by
 have h:=hf _ (bO hM).symm;subst h; exact hk
theorem cd {α:Type} {b:Bool} {x y r:α} (h:cond b x y=r):(b=true∧x=r)∨(b=false∧y=r):=by cases b <;> simp_all
theorem go {a:Act} {w:World} (hS:St W M T n G D F a w) (k:∀ a w,St W M T n G' D' F a w→X' a w) (h:Rn W M T n F false G D X G' D' X':=by exact Mh):X a w:=h w (fun a w' _ hS=>k a w' hS) a hS
theorem GJ {a:Act} {w:World} (hS:St W M T n G D F a w) (k:∀ a,St W M T n G' D' F a w→X' a w) (h:Rn W M T n F true G D X G' D' X':=by exact MA):X a w:=h w (fun a w' e hS=>by cases e rfl; exact k a hS) a hS
theorem am {a:Act} {w:World} (hS:St W M T n G D F a w) (k:∀ a,St W M T n G' D' F a w→X' a w) (h:Rn W M T n F true G D X G' D' X':=by exact Mh):X a w:=h w (fun a w' e hS=>by cases e rfl; exact k a hS) a hS
section
variable {a:Act} {w:World} {E:Nat→Prop} {o:Oper} {fuel:Nat} {ls:Array Bool} {mods:List (Nat×Tn)} {cs us:ba} {ag:Bool} {Z bb off:Nat} {bt e:TypeId} {xx yy X Y:Operand} {g:Option (Nat×Bool)} {args:Array Operand} {tys:Array TypeId} {f:Nat} {vs:ba} {R:Value→World→Prop} {fn:Func}
theorem en {c:Code} {W0:World} {av:ba} (hf:P.funcs[f]? = some fn) (hn:fn.ntmps=n) (hT:∀ k,T k→k<W0.heap.size) (h:∀ a,St W0 M T n (kD 0 av) [] [] a W0→c.wp P (bodyPost P fn (Jk M W0 R)) a W0) (hb:fn.body=some c:=by rfl) (hl:Nat.ble av.length n=true:=by rfl):a7 P M f av W0 R:=enter hf hb T n hn hT hl h
theorem ka (hS:St W M T n G D F a w) (hz:jh P tt=some cs) (k:∀ b,w.heap.size≤b→∀ a w',Kt No w w'→St W M T n ((d,.pointer (some ⟨b,0,none⟩))::G) (.box b cs tt::D) F a w'→wpList P ops Q l a w') (hn:Nat.blt d n=true:=by rfl):wpList P ops Q (⟨some d,.alloc tt,ty,pos,af,none⟩::l) a w:=wl rfl (cC hS hz hn k)
theorem kb (hS:St W M T n G D F a w) (k:∀ b,w.heap.size≤b→∀ a w',Kt No w w'→St W M T n ((d,.pointer (some ⟨b,0,none⟩))::G) (.box b cs tt::D) F a w'→wpList P ops Q l a w') (hx:ev G X=some v:=by rfl) (hv:Cl Z v cs:=by exact I7) (hn:Nat.blt d n=true:=by rfl):wpList P ops Q (⟨some d,.box tt X,ty,pos,af,none⟩::l) a w:=wl rfl (Cy hS hx hv.1 hn k)
theorem kc (hS:St W M T n G D F a w) (hf:aP P f=true) (hc:a7 P No f vs w R)
  (k:∀ v w',R v w'→∀ a,Kt No w w'→(∀ rs:List cc,(∀ r∈rs,r.ok w'∧∀ k,r.dom k→w.heap.size≤k)→(rs.Pairwise fun r s=>∀ k,r.dom k→¬ s.dom k)→St W M T n ((d,v)::G) (rs++D) F a w')→wpList P ops Q l a w') (hargs:evs G args.toList=some vs:=by rfl) (hn:Nat.blt d n=true:=by rfl):wpList P ops Q (⟨some d,.call { callee:=.value (.func f),args:=args,argTypes:=tys },ty,pos,af,none⟩::l) a w:=wl rfl (bz hS hf hargs hn hc k)
theorem e1 (i:Nat) (h:po P o a w (fun a' w'=>Hd mods i w w'∧qE P ops Q mods fuel (ls.setIfInBounds i true) a' w')) (hi:ops[i]? = some o:=by rfl) (hr:Region.ready .any ops ls=[i]:=by kernel_rfl) (hg:o.guard=none:=by rfl):qE P ops Q mods (fuel+1) ls a w:=rr hi hr hg h
theorem ec (i:Nat) (hS:St W M T n G D F a w) (hf:aP P f=true) (hc:a7 P No f vs w R)
  (k:∀ v w',R v w'→∀ a,Kt No w w'→(∀ rs:List cc,(∀ r∈rs,r.ok w'∧∀ k,r.dom k→w.heap.size≤k)→(rs.Pairwise fun r s=>∀ k,r.dom k→¬ s.dom k)→St W M T n ((d,v)::G) (rs++D) F a w')→qE P ops Q mods fuel (ls.setIfInBounds i true) a w') (hi:ops[i]? = some ⟨some d,.call { callee:=.value (.func f),args:=args,argTypes:=tys },ty,pos,af,none⟩:=by rfl) (hr:Region.ready .any ops ls=[i]:=by kernel_rfl) (hargs:evs G args.toList=some vs:=by rfl) (hn:Nat.blt d n=true:=by rfl):qE P ops Q mods (fuel+1) ls a w :=
 rr hi hr rfl (bz hS hf hargs hn hc fun v w' hR a hk hA=>⟨fA hk,k v w' hR a hk hA⟩)
theorem es (i:Nat) [ct:sR P tt ag Z] {q:Nat} (hS:St W M T n G D F a w) (k:∀ w',St W M T n G (D.set q (.box bb (kT cs off us) bt)) F a w'→qE P ops Q mods fuel (ls.setIfInBounds i true) a w') (hi:ops[i]? = some ⟨none,.store tt xx yy,ty,pos,af,none⟩:=by rfl) (hr:Region.ready .any ops ls=[i]:=by kernel_rfl) (hx:ev G xx=some (.pointer (some ⟨bb,off,none⟩)):=by rfl) (hD:D[q]? = some (.box bb cs bt):=by exact fI) (hy:ev G yy=some v:=by rfl) (h1:Cl Z v us:=by exact I7) (h2:∀ u∈us,u.oneCell'=true:=by exact J9) (hl:Nat.ble (off+Z) cs.length=true:=by rfl) (hm:tB mods i=[.blk (some bb)]:=by rfl):qE P ops Q mods (fuel+1) ls a w :=
 rr hi hr rfl (qK hS hx hy h1.1 ct.h q hD h1.2 hl h2 fun w' hk hS=>⟨ij hm hk hU,k w' hS⟩)
theorem eD (h:Q .normal a w) (hr:Region.ready .any ops ls=[]:=by kernel_rfl):qE P ops Q mods fuel ls a w:=Bk hr h fuel
theorem dr {N:Nat} (mods:List (Nat×Tn)) (hS:St W M T n G D F a w) (h:∀ w,Qp Q→St W M T n G D F a w→qE P l.toArray Q mods N (Array.replicate N false) a w) (hm:P.follows .mixedOrders=true:=by exact mixed) (hN:l.length=N:=by rfl) (hQ:Qp Q:=by exact (fun c a d v w h=>by cases d <;> exact h)):(Code.region id l.toArray true).wp P Q a w:=HA mods hS hm hN hQ h
theorem rC [ct:sR P tt ag Z] {c:Nat} (i:Nat) (hS:St W M T n G D F a w) (hv:lk G c=some (.pointer (some ⟨bb,0,none⟩)):=by rfl) (hi:D[i]? = some (.box bb cs bt):=by rfl) (hl:cs.length=Z:=by rfl) (hz:ag=false→Z=1:=by first | exact (fun h=>by cases h) | exact fun _=>rfl):sW P a w [.cell c tt] [bg ag cs]:=bh hS hv i hi ct.h hl hz aF
end
theorem fin {p:Prop} (h:p:=by
 first
 | ((repeat (apply su)); exact⟨hS.mtS,hM⟩)
 | (refine⟨_,(bO hM).symm,?_⟩; (repeat (apply su)); exact⟨rfl,hS.mtS⟩)
 | (cases hM; exact aG hS rfl (aw hS rfl aF) rfl)
 | (have hM:=J6 hM hf1 hMo1; first | ((repeat (apply su)); exact⟨hS.mtS,hM⟩) | (cases hM; exact aG hS rfl (aw hS rfl aF) rfl))
 | (have hM:=HE hM hf1 hMo1; first | ((repeat (apply su)); exact⟨hS.mtS,hM⟩) | (cases hM; exact aG hS rfl (aw hS rfl aF) rfl))
 | (have hM:=lo hM hf1 hMo1; first | ((repeat (apply su)); exact⟨hS.mtS,hM⟩) | (cases hM; exact aG hS rfl (aw hS rfl aF) rfl))
 | (have hM:=J6 hM hf2 hMo2; first | ((repeat (apply su)); exact⟨hS.mtS,hM⟩) | (cases hM; exact aG hS rfl (aw hS rfl aF) rfl))
 | (have hM:=HE hM hf2 hMo2; first | ((repeat (apply su)); exact⟨hS.mtS,hM⟩) | (cases hM; exact aG hS rfl (aw hS rfl aF) rfl))
 | (have hM:=lo hM hf2 hMo2; first | ((repeat (apply su)); exact⟨hS.mtS,hM⟩) | (cases hM; exact aG hS rfl (aw hS rfl aF) rfl))):p:=h
theorem fz {p:Prop} (h:p:=by
 refine go hS fun a w hS=>?_
 repeat' (first | exact fin | (rcases cd hM with⟨_,hM⟩|⟨_,hM⟩ <;> refine go hS fun a w hS=>?_))):p:=h
end
end
end
section
open Go.RowKit
structure ao where
  Rules:(List aI)
  Base:ai
  Memo:(List (ae×ByteArray))
  Seen:(List (ae×(List ae)))
structure nC where
  Done:Bool
  Value:ByteArray
  Ask:ae
theorem Co:aP aO 114=true:=by kernel_rfl
theorem Cp:aP aO 115=true:=by kernel_rfl
theorem En:aP aO 122=true:=by kernel_rfl
theorem Hr:aP aO 123=true:=by kernel_rfl
theorem JA:aP aO 135=true:=by kernel_rfl
theorem Hv:aP aO 136=true:=by kernel_rfl
theorem JE:aP aO 142=true:=by kernel_rfl
theorem JF:aP aO 143=true:=by kernel_rfl
theorem Hy:aP aO 144=true:=by kernel_rfl
theorem Eq:aP aO 150=true:=by kernel_rfl
theorem Es:aP aO 65=true:=by kernel_rfl
theorem Lu:aP aO 98=true:=by kernel_rfl
theorem y5:aP aO 99=true:=by kernel_rfl
theorem Gx:dX aO 137 0=some 0:=by kernel_rfl
theorem Gy:dX aO 137 1=some 1:=by kernel_rfl
theorem Gz:dX aO 137 2=some 4:=by kernel_rfl
theorem GA:dX aO 140 0=some 0:=by kernel_rfl
theorem GB:dX aO 140 1=some 1:=by kernel_rfl
theorem GC:dX aO 140 2=some 2:=by kernel_rfl
theorem GD:dX aO 150 0=some 0:=by kernel_rfl
theorem GE:dX aO 150 1=some 2:=by kernel_rfl
theorem GF:dX aO 150 2=some 3:=by kernel_rfl
theorem ql:DB aO 134=some (31,9):=by kernel_rfl
theorem Kd:Bx aO 137=some [(0,1),(1,3),(4,1),(5,1)]:=by kernel_rfl
theorem uk:Bx aO 140=some [(0,1),(1,1),(2,2)]:=by kernel_rfl
theorem Fu:kw aO 154=some 158:=by kernel_rfl
theorem Kr:mx aO 134=some (false,1):=by kernel_rfl
theorem Ks:mx aO 140=some (true,4):=by kernel_rfl
theorem KC:jh aO 137=some [.slice none 0 0,.int .i64 0,.slice none 0 0,.slice none 0 0,.map none,.map none]:=by kernel_rfl
theorem mr:jh aO 140=some [.bool false,.string bW,.int .i64 0,.string bW]:=by kernel_rfl
theorem HO:HP aO 9=some (.string bW):=by kernel_rfl
end
section
open Go.RowKit
theorem Jq:aP aO 109=true:=by kernel_rfl
theorem Jr:aP aO 110=true:=by kernel_rfl
theorem Cq:aP aO 116=true:=by kernel_rfl
theorem Hn:aP aO 118=true:=by kernel_rfl
theorem Ho:aP aO 119=true:=by kernel_rfl
theorem Hp:aP aO 120=true:=by kernel_rfl
theorem Hq:aP aO 121=true:=by kernel_rfl
theorem JB:aP aO 137=true:=by kernel_rfl
theorem JD:aP aO 141=true:=by kernel_rfl
theorem Hz:aP aO 151=true:=by kernel_rfl
theorem JJ:aP aO 152=true:=by kernel_rfl
theorem JL:aP aO 30=true:=by kernel_rfl
theorem Ga:aP aO 62=true:=by kernel_rfl
theorem GG:dX aO 158 0=some 0:=by kernel_rfl
theorem GH:dX aO 158 1=some 2:=by kernel_rfl
theorem E3:Bx aO 150=some [(0,2),(2,1),(3,1),(4,1),(5,1)]:=by kernel_rfl
theorem Bf:mx aO 158=some (true,4):=by kernel_rfl
end
section
open Go.RowKit
theorem KQ:aP aO 15=true:=by kernel_rfl
theorem HZ:aP aO 24=true:=by kernel_rfl
theorem KZ:aP aO 46=true:=by kernel_rfl
theorem JP:aP aO 53=true:=by kernel_rfl
theorem Le:aP aO 71=true:=by kernel_rfl
theorem A0:Bx aO 25=some [(0,1),(1,1),(2,1)]:=by kernel_rfl
end
section
open Go.RowKit
section
variable {α β:Type} {RI:aR α} {R:aR β} {P:Nat→Prop} {W:World} {M T:Nat→Prop} {n:Nat} {G:List (Nat×Value)} {D D0 Dr rs:List cc} {F F0 F1:List bG} {a:Act} {w:World} {e:TypeId} {v1 v2:Value} {xs1:List α} {xs2:List β}
def mw (P:Nat→Prop) (F0:List bG) (R:aR β) (e:TypeId) (v2:Value) (xs2:List β):bG :=
  ⟨fun T w=>∃ cl,(cc.own v2 e R.size cl).ok w∧(∀ k,(cc.own v2 e R.size cl).dom k→¬ T k∧P k)∧az R (dT T [.own v2 e R.size cl]) w cl xs2∧∀ f∈F0,f.p (dT T [.own v2 e R.size cl]) w,
   fun h k n=>by
    obtain⟨cl,h1,h2,h3,h4⟩:=h;have hn:∀ j,dT _ [.own v2 e R.size cl] j→dT _ [.own v2 e R.size cl] j∨_:=fun j hj=>by
      rcases hj with hj | hj
      · rcases n j hj with q | q
        · exact .inl (.inl q)
        · exact .inr q
      · exact .inl (.inr hj)
    exact⟨cl,cc.keep h1 fun j hj=>k.block j (cc.lt h1 j hj) (h2 j hj).1,fun j hj=>⟨fun hT=>by
      rcases n j hT with q | q
      · exact (h2 j hj).1 q
      · have:=cc.lt h1 j hj; omega,(h2 j hj).2⟩,h3.keep (k.mono fun j hj=>.inl hj) hn,fun f hf=>f.keep (h4 f hf) (k.mono fun j hj=>.inl hj) hn⟩⟩
theorem St.freezeFr {cl:ba} (hS:St W M T n G D F a w) (hP:∀ k,M k∨W.heap.size≤k→P k) (F0:List bG) (hF:z8 F F0) (i:Nat) (hi:D[i]? = some (.own v2 e R.size cl)) (j:Nat) (hj:F[j]? = some (an R cl xs2)) :
    St W M T n G (D.eraseIdx i) (aL R v2 xs2::mw P F0 R e v2 xs2::F) a w:=by
  have hm:=aH hi;have h2:(mw P F0 R e v2 xs2).p (dT T (D.eraseIdx i)) w:=by
    have hn:∀ k,dT (dT T (D.eraseIdx i)) [.own v2 e R.size cl] k→dT T D k:=fun k hk=>(nE hi k).1 hk;refine⟨cl,hS.own _ hm,fun k hk=>⟨fun hT=>?_,hP k (hS.free _ hm k hk).2⟩,(show az R (dT T D) w cl xs2 from hS.get j hj).keep (aj _ _) fun k hk=>.inl (hn k hk),fun f hf=>f.keep (hS.facts f (hF.mem f hf)) (aj _ _) fun k hk=>.inl (hn k hk)⟩;rcases hT with hT | ⟨s,hs,hT⟩
    · exact (hS.free _ hm k hk).1 hT
    · exact hS.notD i hi hk (.inr ⟨s,hs,hT⟩)
  have h3:=hS.freeze i hi j hj;refine⟨h3.size,h3.defers,h3.slots,h3.base,h3.own,h3.free,h3.apart,fun f hf=>?_,h3.tlt⟩;rcases dQ.1 hf with rfl | hf
  · exact h3.facts _ px
  · rcases dQ.1 hf with rfl | hf
    · exact h2
    · exact h3.facts f (tR _ hf)
def D8 (F0:List bG) (f:bG):Prop:=∀ (T T':Nat→Prop) w,(∀ g∈F0,g.p T' w)→f.p T w→f.p T' w
theorem St.thawFr (hS:St W M T n G D F a w) (i:Nat) (hi:F[i]? = some (mw P F0 R e v2 xs2)) (hP:∀ k,P k→M k∨W.heap.size≤k) (hF:∀ f∈F1,f∈F∧D8 F0 f) :
    ∃ cl,St W M T n G (.own v2 e R.size cl::D) (an R cl xs2::(F1++F0)) a w:=by
  obtain⟨cl,h1,h2,h3,h4⟩:=(show (mw P F0 R e v2 xs2).p _ _ from hS.get i hi);have hn:∀ k,dT T (.own v2 e R.size cl::D) k→dT (dT T D) [.own v2 e R.size cl] k:=fun k hk=>by
    rcases hk with hk | ⟨s,hs,hk⟩
    · exact .inl (.inl hk)
    · rcases dQ.1 hs with rfl | hs
      · exact .inr ⟨_,px,hk⟩
      · exact .inl (.inr ⟨s,hs,hk⟩)
  have h5:∀ f∈F0,f.p (dT T (.own v2 e R.size cl::D)) w:=fun f hf=>f.keep (h4 f hf) (aj _ _) fun k hk=>.inl (hn k hk);refine⟨cl,hS.size,hS.defers,hS.slots,hS.base,fun r hr=>?_,fun r hr k hk=>?_,List.Pairwise.cons (fun s hs k hk hk2=>(h2 k hk).1 (.inr ⟨s,hs,hk2⟩)) hS.apart,fun f hf=>?_,hS.tlt⟩
  · rcases dQ.1 hr with rfl | hr
    · exact h1
    · exact hS.own r hr
  · rcases dQ.1 hr with rfl | hr
    · exact⟨fun hT=>(h2 k hk).1 (.inl hT),hP k (h2 k hk).2⟩
    · exact hS.free r hr k hk
  · rcases dQ.1 hf with rfl | hf
    · exact h3.keep (aj _ _) fun k hk=>.inl (hn k hk)
    · rcases cg.1 hf with hf | hf
      · exact (hF f hf).2 _ _ _ h5 (hS.facts f (hF f hf).1)
      · exact h5 f hf
theorem St.toP (hS:St W M T n G (D0++Dr) F a w) (hP:∀ k,M k∨W.heap.size≤k→P k):∀ k,MD D0 k∨w.heap.size≤k→P k:=fun k hk=>hP k (by
  rcases hk with⟨r,hr,hk⟩ | hk
  · exact (hS.free r (gv _ hr) k hk).2
  · exact .inr (cH hS.base.size hk))
theorem St.toPm {b:Nat} {cs:ba} {t:TypeId} (hS:St W M T n G D F a w) (i:Nat) (hi:D[i]? = some (.box b cs t)) (hP:∀ k,M k∨W.heap.size≤k→P k):∀ k,(fun k=>k=b) k∨w.heap.size≤k→P k:=fun k hk=>hP k (by
  rcases hk with hk | hk
  · exact (hS.free _ (aH hi) k (by have hk:k=b:=hk; simp [cc.dom,hk])).2
  · exact .inr (cH hS.base.size hk))
theorem bG.lent {i:Nat} {r:cc} (f:bG) (hi:D[i]? = some r) (h:f.p (dT T D) w):f.p (dT (dT T (D.eraseIdx i)) [r]) w :=
  f.keep h (aj _ _) fun k hk=>.inl ((nE hi k).1 hk)
theorem bG.back {i:Nat} {r r':cc} (f:bG) (hi:D[i]? = some r) (h:f.p (dT (dT T (D.eraseIdx i)) [r']) w):f.p (dT T (D.set i r')) w:=by
  refine f.keep h (aj _ _) fun k hk=>.inl ?_;have hl:=(bD.1 hi).1;have:=(nE (T:=T) (D:=D.set i r') (i:=i) (r:=r') (by rw [tg hl]) k).2 hk;rwa [List.eraseIdx_set_eq] at this
theorem bG.up (f:bG) (hi:FT D rs) (h:f.p (dT T D) w):f.p (dT T rs) w:=f.keep h (aj _ _) fun k hk=>.inl (hi.sub k hk)
theorem Aw {R:aR β} (hR:∀ (T T':Nat→Prop) w c x,R.rel T w c x→R.rel T' w c x) {cl:ba} {xs:List β}:D8 F0 (an R cl xs):=by
  intro T T' w _ h;have h:az R T w cl xs:=h;exact⟨h.1,fun k x hx=>by obtain⟨cs,h1,h2⟩:=h.2 k x hx; exact⟨cs,hR _ _ _ _ _ h1,h2⟩⟩
theorem IE {R:aR β} (hR:∀ (T T':Nat→Prop) w c x,R.rel T w c x→R.rel T' w c x) {v:Value} {xs ys:List β} (i:Nat) (hi:F0[i]? = some (aL R v ys)):D8 F0 (aL R v xs):=by
  intro T T' w hg h;obtain⟨A,c,e1,h1⟩:=(show aC R T w v xs from h);obtain⟨B,d,e2,h2⟩:=(show aC R T' w v ys from hg _ (aH hi));obtain⟨a1,a2,a3⟩:=h1;obtain⟨b1,b2,b3⟩:=h2;rw [e1] at e2;injection e2 with e3 e4 e5;refine⟨A,c,e1,a1,a2,?_⟩;rcases a3 with a3 | ⟨b,off,a4,a5⟩
  · exact .inl a3
  · refine .inr ⟨b,off,a4,fun k x hx=>?_⟩;obtain⟨cs,h1,h2⟩:=a5 k x hx;have hk:k<ys.length:=by rw [← e4]; exact (bD.1 hx).1
    rcases b3 with b3 | ⟨b',off',b4,b5⟩
    · rw [b3] at hk; cases hk
    · obtain⟨cs',h3,h4⟩:=b5 k ys[k] (bC hk);rw [a4] at e3;rw [← e3] at b4;injection b4 with b4;injection b4 with b4;subst b4;exact⟨cs,hR _ _ _ _ _ h1,h4.1,h2.2⟩
end
end
section
open Go.RowKit
structure aA where
  S:ao
  B:ai
  Busy:(List (ae×Bool))
  Ran:(List ae)
  E:Int
theorem Jt:aP aO 117=true:=by kernel_rfl
theorem H7:aP aO 63=true:=by kernel_rfl
theorem Ls:aP aO 96=true:=by kernel_rfl
theorem Lt:aP aO 97=true:=by kernel_rfl
theorem Iz:dX aO 99 0=some 0:=by kernel_rfl
theorem IA:dX aO 99 1=some 1:=by kernel_rfl
theorem IB:dX aO 99 2=some 4:=by kernel_rfl
theorem IC:dX aO 99 3=some 5:=by kernel_rfl
theorem ID:dX aO 99 4=some 6:=by kernel_rfl
theorem IV:Bx aO 99=some [(0,1),(1,3),(4,1),(5,1),(6,1)]:=by kernel_rfl
theorem Ku:mx aO 46=some (false,1):=by kernel_rfl
theorem Kv:mx aO 95=some (false,1):=by kernel_rfl
theorem Mb:mx aO 97=some (false,1):=by kernel_rfl
theorem I5:jh aO 99=some [.pointer none,.int .i64 0,.slice none 0 0,.slice none 0 0,.map none,.slice none 0 0,.int .i64 0]:=by kernel_rfl
end
section
open Go.RowKit
theorem KT:aP aO 21=true:=by kernel_rfl
theorem H0:aP aO 26=true:=by kernel_rfl
theorem H1:aP aO 27=true:=by kernel_rfl
theorem F7:aP aO 28=true:=by kernel_rfl
theorem JK:aP aO 29=true:=by kernel_rfl
theorem K6:aP aO 56=true:=by kernel_rfl
theorem K7:aP aO 57=true:=by kernel_rfl
theorem H9:aP aO 86=true:=by kernel_rfl
theorem Lp:aP aO 87=true:=by kernel_rfl
theorem Lq:aP aO 88=true:=by kernel_rfl
end
section
open Go.RowKit
theorem Cm:aP aO 103=true:=by kernel_rfl
theorem Ju:aP aO 126=true:=by kernel_rfl
theorem Ep:aP aO 146=true:=by kernel_rfl
theorem F8:aP aO 39=true:=by kernel_rfl
end
section
open Go.RowKit
theorem KP:aP aO 10=true:=by kernel_rfl
theorem Hk:aP aO 102=true:=by kernel_rfl
theorem JC:aP aO 14=true:=by kernel_rfl
theorem KS:aP aO 17=true:=by kernel_rfl
theorem F6:aP aO 20=true:=by kernel_rfl
theorem KU:aP aO 25=true:=by kernel_rfl
theorem KX:aP aO 41=true:=by kernel_rfl
theorem KY:aP aO 42=true:=by kernel_rfl
theorem K0:aP aO 47=true:=by kernel_rfl
theorem K1:aP aO 48=true:=by kernel_rfl
theorem K3:aP aO 49=true:=by kernel_rfl
theorem K4:aP aO 50=true:=by kernel_rfl
theorem K5:aP aO 51=true:=by kernel_rfl
theorem Ld:aP aO 69=true:=by kernel_rfl
theorem Lk:aP aO 78=true:=by kernel_rfl
theorem MB:aP aO 8=true:=by kernel_rfl
theorem Ll:aP aO 80=true:=by kernel_rfl
theorem Lm:aP aO 82=true:=by kernel_rfl
theorem Ln:aP aO 83=true:=by kernel_rfl
theorem Mk:aP aO 9=true:=by kernel_rfl
theorem LW:kw aO 45=some 27:=by kernel_rfl
end
section
open Go.RowKit
instance:Da aO 45 27:=⟨LW⟩
instance:sR aO 22 false 1:=⟨L7⟩
instance:sR aO 23 false 1:=⟨L8⟩
instance:sR aO 25 true 3:=⟨eZ⟩
instance:sR aO 27 false 1:=⟨Cb⟩
instance:sR aO 3 false 1:=⟨zM⟩
instance:sR aO 31 true 2:=⟨eJ⟩
instance:sR aO 33 true 8:=⟨bX⟩
instance:sR aO 4 false 1:=⟨I0⟩
instance:sR aO 75 true 4:=⟨Bg⟩
instance:sR aO 9 false 1:=⟨HK⟩
instance:n3 aO 25 0 0:=⟨If⟩
instance:n3 aO 25 1 1:=⟨Ig⟩
instance:n3 aO 25 2 2:=⟨Ih⟩
instance:n3 aO 31 0 0:=⟨Ii⟩
instance:n3 aO 31 1 1:=⟨Ij⟩
instance:n3 aO 33 0 0:=⟨Ik⟩
instance:n3 aO 33 1 2:=⟨Il⟩
instance:n3 aO 33 2 3:=⟨Im⟩
instance:n3 aO 33 3 4:=⟨In⟩
instance:n3 aO 33 4 5:=⟨Ip⟩
instance:n3 aO 33 5 6:=⟨Iq⟩
instance:n3 aO 33 6 7:=⟨Ir⟩
instance:n3 aO 75 0 0:=⟨Iu⟩
instance:n3 aO 75 1 2:=⟨Iv⟩
instance:n3 aO 75 2 3:=⟨Iw⟩
instance:Da aO 22 75:=⟨Ba⟩
instance:Da aO 23 33:=⟨dW⟩
instance:Da aO 26 3:=⟨DQ⟩
instance:Da aO 27 31:=⟨mz⟩
instance:sR aO 113 false 1:=⟨Kq⟩
instance:sR aO 115 true 4:=⟨pM⟩
instance:sR aO 119 true 4:=⟨FD⟩
instance:sR aO 26 false 1:=⟨L9⟩
instance:sR aO 89 true 3:=⟨DW⟩
instance:n3 aO 115 0 0:=⟨Gj⟩
instance:n3 aO 115 1 1:=⟨Gk⟩
instance:n3 aO 115 2 2:=⟨Gl⟩
instance:n3 aO 115 3 3:=⟨Gm⟩
instance:n3 aO 119 0 0:=⟨Gn⟩
instance:n3 aO 119 1 1:=⟨Gp⟩
instance:n3 aO 119 2 2:=⟨Gq⟩
instance:n3 aO 119 3 3:=⟨Gr⟩
instance:n3 aO 73 0 0:=⟨Is⟩
instance:n3 aO 73 1 1:=⟨It⟩
instance:Da aO 113 119:=⟨Ft⟩
instance:Da aO 138 9:=⟨A9⟩
instance:Da aO 36 115:=⟨vk⟩
instance:n3 aO 89 0 0:=⟨Ix⟩
instance:n3 aO 89 1 2:=⟨Iy⟩
instance:Da aO 58 89:=⟨DR⟩
instance:sR aO 120 false 1:=⟨HJ⟩
instance:sR aO 122 true 7:=⟨qx⟩
instance:sR aO 138 false 1:=⟨xr⟩
instance:sR aO 150 true 6:=⟨sj⟩
instance:sR aO 36 false 1:=⟨Ma⟩
instance:n3 aO 122 0 0:=⟨Gs⟩
instance:n3 aO 122 1 1:=⟨Gt⟩
instance:n3 aO 122 2 4:=⟨Gu⟩
instance:n3 aO 122 3 5:=⟨Gv⟩
instance:n3 aO 122 4 6:=⟨Gw⟩
instance:n3 aO 150 3 4:=⟨zo⟩
instance:n3 aO 150 4 5:=⟨zp⟩
instance:Da aO 120 150:=⟨se⟩
instance:sR aO 134 false 1:=⟨Kr⟩
instance:sR aO 140 true 4:=⟨Ks⟩
instance:n3 aO 137 0 0:=⟨Gx⟩
instance:n3 aO 137 1 1:=⟨Gy⟩
instance:n3 aO 137 2 4:=⟨Gz⟩
instance:n3 aO 140 0 0:=⟨GA⟩
instance:n3 aO 140 1 1:=⟨GB⟩
instance:n3 aO 140 2 2:=⟨GC⟩
instance:n3 aO 150 0 0:=⟨GD⟩
instance:n3 aO 150 1 2:=⟨GE⟩
instance:n3 aO 150 2 3:=⟨GF⟩
instance:Da aO 154 158:=⟨Fu⟩
instance:sR aO 158 true 4:=⟨Bf⟩
instance:n3 aO 158 0 0:=⟨GG⟩
instance:n3 aO 158 1 2:=⟨GH⟩
instance:sR aO 46 false 1:=⟨Ku⟩
instance:sR aO 95 false 1:=⟨Kv⟩
instance:sR aO 97 false 1:=⟨Mb⟩
instance:n3 aO 99 0 0:=⟨Iz⟩
instance:n3 aO 99 1 1:=⟨IA⟩
instance:n3 aO 99 2 4:=⟨IB⟩
instance:n3 aO 99 3 5:=⟨IC⟩
instance:n3 aO 99 4 6:=⟨ID⟩
instance:HU aO 3 (.int .i64):=⟨Tryz.underlying3⟩
instance:HU aO 5 (.int .u8):=⟨Tryz.underlying5⟩
instance:HU aO 9 .string:=⟨Tryz.underlying9⟩
instance:HU aO 67 (.int .u64):=⟨Tryz.underlying67⟩
abbrev pt (b o:Nat):Value:=.pointer (some ⟨b,o,none⟩)
abbrev om (b:Nat) (e:Array MapEntry) (c:Nat):cc:=.obj b (.map e c)
abbrev TW (T:Nat→Prop) (w:World):Prop:=∀ k,T k→k<w.heap.size
abbrev aV (x:ae):ba:=[.int .i64 x.Kind,.string x.Text]
abbrev aE (x:ad) (v0:Value):ba:=[.int .i64 x.Key.Kind,.string x.Key.Text,.string x.Value,v0,.int .i64 x.Changed,.int .i64 x.Verified,.int .i64 x.Cost,.bool x.Dirty]
abbrev tp (x:aT):ba:=[.int .i64 x.Key.Kind,.string x.Key.Text,.string x.Value,.int .i64 x.Changed]
abbrev a6 (x:ai) (v0 v1:Value):ba:=[.int .i64 x.Revision,v0,v1]
abbrev be (x:aY) (v0:Value):ba:=[v0,.int .i64 x.At]
abbrev lP (x:dk):ba:=[.int .i64 x.Key.Kind,.string x.Key.Text,.string x.Value]
abbrev HX (x:cD):ba:=[.bool x.Cell,.bool x.Pick,.int .i64 x.N,.int .i64 x.Else]
abbrev sX (x:aI) (v0:Value):ba:=[.bool x.Ring,v0,.int .i64 x.Final,.int .i64 x.C]
abbrev ku (x:aX) (v0 v1:Value):ba:=[.int .i64 x.Key.Kind,.string x.Key.Text,.bool x.Running,.int .i64 x.At,v0,v1]
abbrev sY (x:cI) (v0 v1 v2 v3 v4 v5:Value):ba:=[v0,.int .i64 x.Base.Revision,v1,v2,v3,v4,v5]
abbrev BI (x:bY):ba:=[.int .i64 x.Member.Kind,.string x.Member.Text,.int .i64 x.Read.Kind,.string x.Read.Text]
abbrev Hh (x:nC):ba:=[.bool x.Done,.string x.Value,.int .i64 x.Ask.Kind,.string x.Ask.Text]
abbrev LL:=List (ae×(List ae))
abbrev LB:=List (ae×ByteArray)
abbrev LO:=List (ae×Bool)
abbrev LR:=List ad
abbrev LI:=List aT
abbrev LK:=List ae
abbrev LU:=List aI
abbrev LV:=ba
abbrev AM:=Array MapEntry
abbrev LN:=List Int
abbrev LY:=List ByteArray
abbrev LF:=List aX
abbrev LC:=List dk
abbrev ui (v:Value) (c:ba):cc:=.own v 119 dJ.size c
abbrev gL (v:Value) (c:ba):cc:=.own v 89 bc.size c
abbrev kX (v:Value) (c:ba):cc:=.own v 158 eF.size c
abbrev cV (v:Value) (c:ba):cc:=.own v 150 au.size c
abbrev aQ (v:Value) (c:ba):cc:=.own v 75 ab.size c
abbrev ax (v:Value) (c:ba):cc:=.own v 31 ac.size c
abbrev ah (v:Value) (c:ba):cc:=.own v 33 aa.size c
abbrev bJ (v:Value) (c:ba):cc:=.own v 115 ar.size c
abbrev my (e:Array MapEntry) (x:List (ae×ByteArray)):bG:=nA ac true aR.str false e x
abbrev pv (e:Array MapEntry) (x:List (ae×(List ae))):bG:=nA ac true (aR.slice ac) false e x
abbrev s7 (e:Array MapEntry) (x:List (ae×Bool)):bG:=nA ac true aR.bool false e x
abbrev xS (b:Nat) (v:Value) (r:Int) (v1 v2:Value) (m k:Nat):cc:=.box b [v,.int .i64 r,v1,v2,.map (some m),.map (some k)] 137
abbrev xE (b d:Nat) (r:Int) (v1 v2:Value) (m:Nat) (v3:Value) (e:Int):cc:=.box b [.pointer (some ⟨d,0,none⟩),.int .i64 r,v1,v2,.map (some m),v3,.int .i64 e] 99
end
section
set_option maxRecDepth 100000
set_option maxHeartbeats 4000000
open Go.RowKit
noncomputable section
def l4:Option Bool:=some (true)
def fX (e:LK) (f:LK) (b:Int):Option (Fl (Int) (Fl (Unit) Bool)):=cond (decide (b<(e.length:Int))) ((bk e b).bind fun c=>(bk f b).bind fun d=>cond (!(d.Kind==c.Kind&&d.Text.toList==c.Text.toList)) (some (.out (.out false))) (some (.go (IntKind.i64.wrap (b+1))))) (some (.out (.go ())))
def gO (b:LK) (c:LK):Option Bool:=cond ((b.length:Int) != (c.length:Int)) (some (false)) ((loop (fun s:Int=>fX b c s) 0).bind fun r=>Fl.el r (fun s=>l4) (fun y=>some (y)))
theorem vc (T:Nat→Prop) (W0:World) (hT:TW T W0) (c:LK) (d:LK) (i:Value) (j:Value) (t:aC ac T W0 i c) (u:aC ac T W0 j d) (y:Bool) (hM:gO c d=some y):a7 aO No 16 [i,j] W0 (fun v w'=>v = .bool y):=by
 refine en Tryz.func16 Tryz.ntmps16 hT fun a hS=>?_;replace hS:=(hS.fS (aC.dn t)).fS (aC.dn u);unfold gO at hM;refine am hS fun a hS=>?_;refine ay ?_;refine am hS fun a hS=>?_;rcases cd hM with⟨l,hM⟩|⟨l,hM⟩
 ·exact fz
 refine am hS fun a hS=>?_;refine aK (J:=fun a w=>St W0 No T 26 [] [] [] a w∧l4=some y) ?_ ?_
 ·skip;refine am hS fun a hS=>?_;obtain⟨F,r,hMo1⟩:=bd hM;refine bx _ (fun s a w=>∃ (b:Int),b=s∧St W0 No T 26 [(1,j),(12,i),(13,al (c.length:Int)),(14,al b)] [] [aL ac j d,aL ac i c] a w) r ⟨_,rfl,hS.mt [] [0,1]⟩ ?_;rintro s a w C ⟨b,rfl,hS⟩ hM hf1;have hM:fX c d b=some C:=hM;unfold fX at hM;refine am hS fun a hS=>?_;refine ay ?_;rcases cd hM with⟨m,hM⟩|⟨m,hM⟩
  ·refine am hS fun a hS=>?_;refine ay ?_;refine am hS fun a hS=>?_;obtain⟨e,g,hM⟩:=bd hM;refine wl rfl (bu (R:=ac) hS mz eJ rfl rfl 1 rfl g rfl fun x E A n a hS=>?_);obtain rfl:=n;refine am hS fun a hS=>?_;refine ka hS fE fun z D a w hk hS=>?_;refine go hS fun a w hS=>?_;refine ay ?_;refine dr [] hS fun w hQ hS=>?_;refine gE [0,1] hS fun a hS=>?_;obtain⟨f,h,hM⟩:=bd hM;obtain⟨k,q,B,o,p,hS⟩:=m6 (R:=ac) hS mz eJ 1 rfl h;obtain rfl:=o;refine dy 2 (v:=pt k q) rfl (by kernel_rfl) (by kernel_rfl) (by kernel_rfl) rfl hQ hS (p rfl rfl) rfl rfl rfl fun a hS=>?_;refine gE [3,4] hS fun a hS=>?_;refine dy 5 (v:=.bool (!(f.Kind==e.Kind&&f.Text.toList==e.Text.toList))) rfl (by kernel_rfl) (by kernel_rfl) (by kernel_rfl) rfl hQ hS (yo hS rfl rfl) rfl rfl rfl fun a hS=>?_;refine eD ?_;exact fz
  exact fz
 rintro a w ⟨hS,hM⟩;unfold l4 at hM;exact fz
def lp (b:Int):Option ae:=cond (decide (b<0)) (some ((ae.mk 0 bW))) (cond (decide ((99:Int)<b)) (some ((ae.mk 0 bW))) ((vF b).bind fun c=>some ((ae.mk 30 c))))
theorem qP (T:Nat→Prop) (W0:World) (hT:TW T W0) (hLv:dc T W0) (b:Int) (y:ae) (hM:lp b=some y):a7 aO No 90 [al b] W0 (fun v w'=>v = .agg (aV y).toArray):=by
 refine en Tryz.func90 Tryz.ntmps90 hT fun a hS=>?_;replace hS:=hS.fact br (dc.dn hLv);unfold lp at hM;refine am hS fun a hS=>?_;refine ka hS fE fun g h a w hk hS=>?_;refine am hS fun a hS=>?_;refine ay ?_;refine jg ?_;refine am hS fun a hS=>?_;rcases cd hM with⟨e,hM⟩|⟨e,hM⟩
 ·refine am hS fun a hS=>?_;refine qy hS (bp (ps:=[]) hS zE fE rfl (us:=[]) trivial (ws:=[al 0,aZ bW]) rfl) fun a hS=>?_;refine go hS fun a w hS=>?_;cases hM
  refine aG hS rfl (rC 0 hS) ?_;exact rfl
 refine am hS fun a hS=>?_;rcases cd hM with⟨f,hM⟩|⟨f,hM⟩
 ·refine am hS fun a hS=>?_;refine qy hS (bp (ps:=[]) hS zE fE rfl (us:=[]) trivial (ws:=[al 0,aZ bW]) rfl) fun a hS=>?_;refine go hS fun a w hS=>?_;cases hM
  refine aG hS rfl (rC 0 hS) ?_;exact rfl
 refine am hS fun a hS=>?_;obtain⟨c,d,hM⟩:=bd hM;refine kc hS Cn (wj _ _ hS.dlt (hS.get 0 rfl) b _ d) fun _ w hR a hk hA=>?_;obtain rfl:=hR;have hS:=ce hA;refine qy hS (bp (ps:=[(0,.const (al 30)),(1,.tmp 11)]) hS zE fE rfl (us:=[[al 30],[aZ c]]) ⟨rfl,⟨rfl,trivial⟩⟩ (ws:=[al 30,aZ c]) rfl) fun a hS=>?_;refine go hS fun a w hS=>?_;cases hM
 refine aG hS rfl (rC 0 hS) ?_;exact rfl
def u0 (b:LN):Option aY:=some ((aY.mk b 0))
theorem AU (T:Nat→Prop) (W0:World) (hT:TW T W0) (d:LN) (b:Value) (g:aC (aR.int .i64) T W0 b d) (y:aY) (hM:u0 d=some y):a7 aO No 10 [b] W0 (fun v w'=>∃ (c:Nat) (f:Value),v=pt c 0∧W0.heap.size≤c∧w'.heap[c]? = some (.cells (be y f).toArray 73 (0,0))∧aC (aR.int .i64) (dT T [.box c (be y f) 73]) w' f y.L):=by
 refine en Tryz.func10 Tryz.ntmps10 hT fun a hS=>?_;replace hS:=hS.fS (aC.dn g);unfold u0 at hM;refine am hS fun a hS=>?_;refine qy hS (bp (ps:=[(0,.tmp 3)]) hS LP Md rfl (us:=[[b]]) ⟨(lh (aC.one ((hS.get 0 rfl):aC (aR.int .i64) _ _ _ _))),trivial⟩ (ws:=[b,al 0]) rfl) fun a hS=>?_;refine kb hS fun e h a w hk hS=>?_;refine am hS fun a hS=>?_;cases hM
 refine aG hS rfl (aw hS rfl aF) ?_;exact⟨e,b,rfl,hS.boxNew 0 rfl,hS.boxRow 0 rfl,(aC.up ⟨.inr (aH (i:=0) rfl),trivial⟩ (hS.get 0 rfl))⟩
def oZ (c:Int) (b:Int):Option Int:=cond (decide (b<1)) (some (0)) (gd (b != 0) <| gd (b != 0) <| some (Int.tmod (IntKind.i64.wrap ((Int.tmod c b)+b)) b))
theorem tz (T:Nat→Prop) (W0:World) (hT:TW T W0) (c:Int) (b:Int) (y:Int) (hM:oZ c b=some y):a7 aO No 12 [al c,al b] W0 (fun v w'=>v=al y):=by
 refine en Tryz.func12 Tryz.ntmps12 hT fun a hS=>?_;unfold oZ at hM;refine am hS fun a hS=>?_;refine ay ?_;refine am hS fun a hS=>?_;rcases cd hM with⟨d,hM⟩|⟨d,hM⟩
 ·exact fz
 refine am hS fun a hS=>?_;obtain⟨e,hM⟩:=bm hM;refine qy hS (yT hS rfl rfl (bne_iff_ne.1 e)) fun a hS=>?_;refine am hS fun a hS=>?_;obtain⟨f,hM⟩:=bm hM;refine qy hS (yT hS rfl rfl (bne_iff_ne.1 f)) fun a hS=>?_;exact fz
def bI (b:aY) (e:Int):Option (Int×aY):=cond (decide ((b.L.length:Int)≤b.At)) (some ((0,b))) ((bk b.L (IntKind.i64.wrap ((IntKind.i64.wrap (b.At+1))-1))).bind fun c=>(oZ c e).bind fun d=>some ((d,(aY.mk b.L (IntKind.i64.wrap (b.At+1))))))
theorem bo (T:Nat→Prop) (W0:World) (hT:TW T W0) (d:aY) (f:Int) (e:Value) (b:Nat) (s:W0.heap[b]? = some (.cells (be d e).toArray 73 (0,0))) (q:¬ T b) (t:aC (aR.int .i64) (dT T [.box b (be d e) 73]) W0 e d.L) (y:Int×aY) (hM:bI d f=some y):a7 aO (fun k=>k=b) 19 [pt b 0,al f] W0 (fun v w'=>∃ (j:Value),v=al y.1∧w'.heap[b]? = some (.cells (be y.2 j).toArray 73 (0,0))∧aC (aR.int .i64) (dT T [.box b (be y.2 j) 73]) w' j y.2.L∧e=j):=by
 refine qG (c:=_) Tryz.func19 rfl T 35 Tryz.ntmps19 hT rfl s q fun a hS=>?_;replace hS:=hS.fS t;unfold bI at hM;refine am hS fun a hS=>?_;refine ay ?_;refine ay ?_;refine dr [] hS fun w hQ hS=>?_;refine gE [0,1,2,3,4,5,6,7,8,9] hS fun a hS=>?_;refine eD ?_;refine am hS fun a hS=>?_;rcases cd hM with⟨n,hM⟩|⟨n,hM⟩
 ·refine am hS fun a hS=>?_;cases hM
  refine aG hS rfl (aw hS rfl aF) ?_;exact⟨e,rfl,hS.boxRow 0 rfl,(aC.up ⟨.inr (aH (i:=0) rfl),trivial⟩ (hS.get 0 rfl)),rfl⟩
 refine go hS fun a w hS=>?_;refine ay ?_;refine dr [] hS fun w hQ hS=>?_;refine gE [0,1,2,3,4,5,6,7,8] hS fun a hS=>?_;obtain⟨m,g,hM⟩:=bd hM;obtain⟨l,r,u,o,p,hS⟩:=m6 (R:=(aR.int .i64)) hS DQ zM 0 rfl g;obtain rfl:=o;refine dy 9 (v:=pt l r) rfl (by kernel_rfl) (by kernel_rfl) (by kernel_rfl) rfl hQ hS (p rfl rfl) rfl rfl rfl fun a hS=>?_;refine gE [10,11] hS fun a hS=>?_;obtain⟨x,h,hM⟩:=bd hM;refine ec 12 hS HY (tz _ _ hS.dlt m f _ h) fun _ w hR a hk hA=>?_;obtain rfl:=hR;have hS:=ce hA;refine gE [13] hS fun a hS=>?_;refine eD ?_;refine am hS fun a hS=>?_;cases hM
 refine aG hS rfl (aw hS rfl aF) ?_;exact⟨e,rfl,hS.boxRow 0 rfl,(aC.up ⟨.inr (aH (i:=0) rfl),trivial⟩ (hS.get 1 rfl)),rfl⟩
def qc (e:aY) (c:LY):Option (ByteArray×aY):=(bI e (c.length:Int)).bind fun b=>(bk c b.1).bind fun d=>some ((d,(aY.mk b.2.L b.2.At)))
theorem Ap (T:Nat→Prop) (W0:World) (hT:TW T W0) (b:aY) (h:LY) (f:Value) (t:Value) (d:Nat) (q:W0.heap[d]? = some (.cells (be b f).toArray 73 (0,0))) (o:¬ T d) (r:aC (aR.int .i64) (dT T [.box d (be b f) 73]) W0 f b.L) (s:aC aR.str (dT T [.box d (be b f) 73]) W0 t h) (y:ByteArray×aY) (hM:qc b h=some y):a7 aO (fun k=>k=d) 91 [pt d 0,t] W0 (fun v w'=>∃ (m:Value),v=aZ y.1∧w'.heap[d]? = some (.cells (be y.2 m).toArray 73 (0,0))∧aC (aR.int .i64) (dT T [.box d (be y.2 m) 73]) w' m y.2.L∧f=m):=by
 refine qG (c:=_) Tryz.func91 rfl T 12 Tryz.ntmps91 hT rfl q o fun a hS=>?_;replace hS:=(hS.fS r).fS s;unfold qc at hM;refine am hS fun a hS=>?_;obtain⟨p,l,hM⟩:=bd hM;refine wl rfl (cj hS lM rfl rfl 0 rfl (bo _ _ (hS.drop 0).dlt b (h.length:Int) _ _ (hS.boxRow 0 rfl) (hS.notin 0 rfl) (aC.lent (i:=0) rfl (hS.get 1 rfl)) _ l) fun _ w hR hk=>?_);obtain⟨B,he,hrow,g,e⟩:=hR;obtain rfl:=he.symm;subst e;refine⟨(be p.2 f),hrow,fun a hS=>?_⟩;replace hS:=hS.fS (aC.back (i:=0) rfl g);obtain⟨z,j,hM⟩:=bd hM;refine wl rfl (bu (R:=aR.str) hS A9 HK rfl rfl 1 rfl j rfl fun u A x n a hS=>?_);obtain rfl:=n;refine am hS fun a hS=>?_;cases hM
 refine aG hS rfl (aw hS rfl aF) ?_;exact⟨f,rfl,hS.boxRow 0 rfl,(aC.up ⟨.inr (aH (i:=0) rfl),trivial⟩ (hS.get 1 rfl)),rfl⟩
def nH (e:aY):Option (dk×aY):=(bI e 4).bind fun b=>(lp b.1).bind fun d=>(qc (aY.mk b.2.L b.2.At) ([(ByteArray.mk #[48]),(ByteArray.mk #[49]),(ByteArray.mk #[50]),(ByteArray.mk #[51]),(ByteArray.mk #[55]),(ByteArray.mk #[49,48,48]),bW,(ByteArray.mk #[120]),(ByteArray.mk #[49,54]),(ByteArray.mk #[49])])).bind fun c=>some (((dk.mk d c.1),(aY.mk c.2.L c.2.At)))
theorem xY (T:Nat→Prop) (W0:World) (hT:TW T W0) (b:aY) (f:Value) (e:Nat) (t:W0.heap[e]? = some (.cells (be b f).toArray 73 (0,0))) (s:¬ T e) (u:aC (aR.int .i64) (dT T [.box e (be b f) 73]) W0 f b.L) (hLv:dc (dT T [.box e (be b f) 73]) W0) (y:dk×aY) (hM:nH b=some y):a7 aO (fun k=>k=e) 59 [pt e 0] W0 (fun v w'=>∃ (r:Value),v = .agg (lP y.1).toArray∧w'.heap[e]? = some (.cells (be y.2 r).toArray 73 (0,0))∧aC (aR.int .i64) (dT T [.box e (be y.2 r) 73]) w' r y.2.L∧f=r):=by
 refine qG (c:=_) Tryz.func59 rfl T 10 Tryz.ntmps59 hT rfl t s fun a hS=>?_;replace hS:=(hS.fact br hLv).fS u;unfold nH at hM;refine am hS fun a hS=>?_;refine ka hS Cg fun z B a w hk hS=>?_;refine am hS fun a hS=>?_;obtain⟨d,o,hM⟩:=bd hM;refine wl rfl (cj hS lM rfl rfl 1 rfl (bo _ _ (hS.drop 1).dlt b 4 _ _ (hS.boxRow 1 rfl) (hS.notin 1 rfl) (aC.lent (i:=1) rfl (hS.get 0 rfl)) _ o) fun _ w hR hk=>?_);obtain⟨C,he,hrow,m,g⟩:=hR;obtain rfl:=he.symm;subst g;refine⟨(be d.2 f),hrow,fun a hS=>?_⟩;replace hS:=hS.fS (aC.back (i:=1) rfl m);obtain⟨j,p,hM⟩:=bd hM;refine kc hS Ia (qP _ _ hS.dlt (hS.get 2 rfl) d.1 _ p) fun _ w hR a hk hA=>?_;obtain rfl:=hR;have hS:=ce hA;refine am hS fun a hS=>?_;refine wl rfl (bj (ps:=[(0,.const (.string ⟨#[48]⟩)),(1,.const (.string ⟨#[49]⟩)),(2,.const (.string ⟨#[50]⟩)),(3,.const (.string ⟨#[51]⟩)),(4,.const (.string ⟨#[55]⟩)),(5,.const (.string ⟨#[49,48,48]⟩)),(6,.const (.string ⟨#[]⟩)),(7,.const (.string ⟨#[120]⟩)),(8,.const (.string ⟨#[49,54]⟩)),(9,.const (.string ⟨#[49]⟩))]) hS rR KE (zl:=[aZ bW,aZ bW,aZ bW,aZ bW,aZ bW,aZ bW,aZ bW,aZ bW,aZ bW,aZ bW]) (by kernel_rfl) rfl (us:=[[aZ (ByteArray.mk #[48])],[aZ (ByteArray.mk #[49])],[aZ (ByteArray.mk #[50])],[aZ (ByteArray.mk #[51])],[aZ (ByteArray.mk #[55])],[aZ (ByteArray.mk #[49,48,48])],[aZ bW],[aZ (ByteArray.mk #[120])],[aZ (ByteArray.mk #[49,54])],[aZ (ByteArray.mk #[49])]]) ⟨rfl,⟨rfl,⟨rfl,⟨rfl,⟨rfl,⟨rfl,⟨rfl,⟨rfl,⟨rfl,⟨rfl,trivial⟩⟩⟩⟩⟩⟩⟩⟩⟩⟩ (ws:=[aZ (ByteArray.mk #[48]),aZ (ByteArray.mk #[49]),aZ (ByteArray.mk #[50]),aZ (ByteArray.mk #[51]),aZ (ByteArray.mk #[55]),aZ (ByteArray.mk #[49,48,48]),aZ bW,aZ (ByteArray.mk #[120]),aZ (ByteArray.mk #[49,54]),aZ (ByteArray.mk #[49])]) rfl rfl rfl rfl fun A a w hk hS=>?_);replace hS:=(hS.lit (R:=aR.str) (us:=[aZ (ByteArray.mk #[48]),aZ (ByteArray.mk #[49]),aZ (ByteArray.mk #[50]),aZ (ByteArray.mk #[51]),aZ (ByteArray.mk #[55]),aZ (ByteArray.mk #[49,48,48]),aZ bW,aZ (ByteArray.mk #[120]),aZ (ByteArray.mk #[49,54]),aZ (ByteArray.mk #[49])]) (xs:=[(ByteArray.mk #[48]),(ByteArray.mk #[49]),(ByteArray.mk #[50]),(ByteArray.mk #[51]),(ByteArray.mk #[55]),(ByteArray.mk #[49,48,48]),bW,(ByteArray.mk #[120]),(ByteArray.mk #[49,54]),(ByteArray.mk #[49])]) 0 rfl (by decide) ((az.one_ (R:=aR.str) (x:=(ByteArray.mk #[48])) rfl).append ((az.one_ (R:=aR.str) (x:=(ByteArray.mk #[49])) rfl).append ((az.one_ (R:=aR.str) (x:=(ByteArray.mk #[50])) rfl).append ((az.one_ (R:=aR.str) (x:=(ByteArray.mk #[51])) rfl).append ((az.one_ (R:=aR.str) (x:=(ByteArray.mk #[55])) rfl).append ((az.one_ (R:=aR.str) (x:=(ByteArray.mk #[49,48,48])) rfl).append ((az.one_ (R:=aR.str) (x:=bW) rfl).append ((az.one_ (R:=aR.str) (x:=(ByteArray.mk #[120])) rfl).append ((az.one_ (R:=aR.str) (x:=(ByteArray.mk #[49,54])) rfl).append (az.one_ (R:=aR.str) (x:=(ByteArray.mk #[49])) rfl)))))))))) rfl rfl).freeze (R:=aR.str) 0 rfl 0 rfl;obtain⟨l,q,hM⟩:=bd hM;refine wl rfl (cj hS Lr rfl rfl 1 rfl (Ap _ _ (hS.drop 1).dlt (aY.mk d.2.L d.2.At) ([(ByteArray.mk #[48]),(ByteArray.mk #[49]),(ByteArray.mk #[50]),(ByteArray.mk #[51]),(ByteArray.mk #[55]),(ByteArray.mk #[49,48,48]),bW,(ByteArray.mk #[120]),(ByteArray.mk #[49,54]),(ByteArray.mk #[49])]) _ _ _ (hS.boxRow 1 rfl) (hS.notin 1 rfl) (aC.lent (i:=1) rfl (hS.get 2 rfl)) (aC.lent (i:=1) rfl (hS.get 0 rfl)) _ q) fun _ w hR hk=>?_);obtain⟨D,he,hrow,n,h⟩:=hR;obtain rfl:=he.symm;subst h;refine⟨(be l.2 f),hrow,fun a hS=>?_⟩;replace hS:=hS.fS (aC.back (i:=1) rfl n);refine qy hS (bp (ps:=[(0,.tmp 5),(1,.tmp 8)]) hS LQ Cg rfl (us:=[(aV j),[aZ l.1]]) ⟨rfl,⟨rfl,trivial⟩⟩ (ws:=[al j.Kind,aZ j.Text,aZ l.1]) rfl) fun a hS=>?_;refine go hS fun a w hS=>?_;cases hM
 refine aG hS rfl (rC 0 hS) ?_;exact⟨f,rfl,hS.boxRow 1 rfl,(aC.up ⟨.inr (aH (i:=1) rfl),trivial⟩ (hS.get 0 rfl)),rfl⟩
def kU (d:LC) (b:LN) (c:Int):Option (LC×aY):=some ((d,(aY.mk b c)))
def kV (c:LC) (f:Int) (d:LN) (e:Int):Option (Fl (LC×Int×LN×Int) (LC×LN×Int)):=cond (decide ((0:Int)<f)) ((nH (aY.mk d e)).bind fun b=>gd (bL (c.length+([(dk.mk (ae.mk b.1.Key.Kind b.1.Key.Text) b.1.Value)]).length)) <| some (.go ((c++([(dk.mk (ae.mk b.1.Key.Kind b.1.Key.Text) b.1.Value)])),IntKind.i64.wrap (f-1),b.2.L,b.2.At))) (some (.out (c,d,e)))
def ip (d:aY) (c:Int):Option (LC×aY):=(bI d (IntKind.i64.wrap (c+1))).bind fun b=>(loop (fun s:LC×Int×LN×Int=>kV s.1 s.2.1 s.2.2.1 s.2.2.2) (([]:List dk),b.1,b.2.L,b.2.At)).bind fun r=>kU r.1 r.2.1 r.2.2
theorem oX (T:Nat→Prop) (W0:World) (hT:TW T W0) (j:aY) (n:Int) (h:Value) (d:Nat) (N:W0.heap[d]? = some (.cells (be j h).toArray 73 (0,0))) (K:¬ T d) (P:aC (aR.int .i64) (dT T [.box d (be j h) 73]) W0 h j.L) (hLv:dc (dT T [.box d (be j h) 73]) W0) (y:LC×aY) (hM:ip j n=some y):a7 aO (fun k=>k=d) 27 [pt d 0,al n] W0 (fun v w'=>∃ (G:Value) (uQ:ba) (D:Value),v=G∧ge bc T W0 w' [gL G uQ,.box d (be y.2 D) 73] 89 G uQ y.1∧w'.heap[d]? = some (.cells (be y.2 D).toArray 73 (0,0))∧aC (aR.int .i64) (dT T [gL G uQ,.box d (be y.2 D) 73]) w' D y.2.L∧h=D):=by
 refine qG (c:=_) Tryz.func27 rfl T 21 Tryz.ntmps27 hT rfl N K fun a hS=>?_;replace hS:=(hS.fact br hLv).fS P;unfold ip at hM;refine am hS fun a hS=>?_;refine aK (J:=fun a w=>∃ (z:LC) (t:LN) (u:Int) (o:Value) (l:LV),St W0 (fun k=>k=d) T 21 [(5,o)] [gL o l,.box d [h,al u] 73] [an bc l z,aL (aR.int .i64) h t,br] a w∧kU z t u=some y) ?_ ?_
 ·skip;refine am hS fun a hS=>?_;obtain⟨M,F,hM⟩:=bd hM;refine wl rfl (cj hS lM rfl rfl 0 rfl (bo _ _ (hS.drop 0).dlt j (IntKind.i64.wrap (n+1)) _ _ (hS.boxRow 0 rfl) (hS.notin 0 rfl) (aC.lent (i:=0) rfl (hS.get 0 rfl)) _ F) fun _ w hR hk=>?_);obtain⟨V,he,hrow,B,p⟩:=hR;obtain rfl:=he.symm;subst p;refine⟨(be M.2 h),hrow,fun a hS=>?_⟩;replace hS:=hS.fS (aC.back (i:=0) rfl B);refine am hS fun a hS=>?_;replace hS:=hS.nilRow bc 89 (by decide);obtain⟨Y,O,hMo1⟩:=bd hM;refine bx _ (fun s a w=>∃ (g:LC) (m:Int) (e:LN) (f:Int) (A:Value) (r:LV),(g,m,e,f)=s∧St W0 (fun k=>k=d) T 21 [(0,pt d 0),(5,A),(6,al m)] [gL A r,.box d [h,al f] 73] [an bc r g,aL (aR.int .i64) h e,br] a w) O ⟨_,_,_,_,_,_,rfl,hS.mt [0,1] [0,1,3]⟩ ?_;rintro s a w U ⟨g,m,e,f,A,r,rfl,hS⟩ hM hf1;have hM:kV g m e f=some U:=hM;unfold kV at hM;refine ay ?_;refine am hS fun a hS=>?_;rcases cd hM with⟨H,hM⟩|⟨H,hM⟩
  ·refine am hS fun a hS=>?_;refine ay ?_;refine am hS fun a hS=>?_;obtain⟨b,E,hM⟩:=bd hM;refine wl rfl (cj hS K8 rfl rfl 1 rfl (xY _ _ (hS.drop 1).dlt (aY.mk e f) _ _ (hS.boxRow 1 rfl) (hS.notin 1 rfl) (aC.lent (i:=1) rfl (hS.get 1 rfl)) (br.keep (hS.get 2 rfl) (aj _ _) (fun k hk=>.inl ((nE (i:=1) rfl k).1 hk))) _ E) fun _ w hR hk=>?_);obtain⟨W,he,hrow,C,q⟩:=hR;obtain rfl:=he.symm;subst q;refine⟨(be b.2 h),hrow,fun a hS=>?_⟩;replace hS:=hS.fS (aC.back (i:=1) rfl C);refine wl rfl (bj (ps:=[(0,.tmp 17)]) hS JZ Cg (zl:=[al 0,aZ bW,aZ bW]) (by kernel_rfl) rfl (us:=[(lP b.1)]) ⟨rfl,trivial⟩ (ws:=(lP b.1)) rfl rfl rfl rfl fun Q a w hk hS=>?_);replace hS:=(hS.lit (R:=bc) (us:=(lP b.1)) (xs:=[(dk.mk (ae.mk b.1.Key.Kind b.1.Key.Text) b.1.Value)]) 0 rfl (by decide) (az.one_ (R:=bc) (x:=(dk.mk (ae.mk b.1.Key.Kind b.1.Key.Text) b.1.Value)) rfl) rfl rfl).freeze (R:=bc) 0 rfl 0 rfl;obtain⟨I,hM⟩:=bm hM;refine wl rfl (bB (R:=bc) (xs:=g) (ys:=[(dk.mk (ae.mk b.1.Key.Kind b.1.Key.Text) b.1.Value)]) hS JZ (by decide) (by decide) rfl rfl 0 rfl 3 rfl 0 rfl I rfl fun X S a w hk hS=>?_);refine am hS fun a hS=>?_;exact⟨_,(bO hM).symm,_,_,_,_,_,_,rfl,hS.mt [0,1] [0,3,6]⟩
  refine am hS fun a hS=>?_;cases hM
  have hr:=hf1 _ rfl;subst hr;have hM:kU g e f=some y:=hMo1;exact⟨_,_,_,_,_,hS.mt [0,1] [0,1,2],hM⟩
 rintro a w ⟨z,t,u,o,l,hS,hM⟩;unfold kU at hM;refine am hS fun a hS=>?_;cases hM
 refine aG hS rfl (aw hS rfl aF) ?_;exact⟨o,l,h,rfl,hS.retOwnm ⟨.inr (aH (i:=0) rfl),⟨.inr (aH (i:=1) rfl),trivial⟩⟩ 0 rfl 0 rfl 1 rfl (by decide),hS.boxRow 1 rfl,(aC.up ⟨.inr (aH (i:=0) rfl),⟨.inr (aH (i:=1) rfl),trivial⟩⟩ (hS.get 1 rfl)),rfl⟩
def jz (b:Int) (c:Int):Option (Int×Int):=some ((b,c))
def d9 (c:LU) (f:Int) (b:Int):Option (Fl (Int) (Int)):=(bk c f).bind fun d=>cond d.Ring (cond (decide (b<(c.length:Int))) ((bk c b).bind fun e=>cond e.Ring (some (.go (IntKind.i64.wrap (b+1)))) (some (.out b))) (some (.out b))) (some (.out b))
def jA (b:LU) (c:Int) (d:Int):Option (Int×Int):=(loop (fun s:Int=>d9 b c s) (IntKind.i64.wrap (c+1))).bind fun r=>jz d r
def ee (c:LU) (f:Int) (b:Int):Option (Fl (Int) (Int)):=(bk c f).bind fun d=>cond d.Ring (cond (decide ((0:Int)<b)) ((bk c (IntKind.i64.wrap (b-1))).bind fun e=>cond e.Ring (some (.go (IntKind.i64.wrap (b-1)))) (some (.out b))) (some (.out b))) (some (.out b))
def lC (b:LU) (c:Int):Option (Int×Int):=cond (decide (c<0)) (some ((0,0))) (cond (decide ((b.length:Int)≤c)) (some ((0,0))) ((loop (fun s:Int=>ee b c s) c).bind fun r=>jA b c r))
theorem s9 (T:Nat→Prop) (W0:World) (hT:TW T W0) (b:LU) (c:Int) (g:Value) (G:aC ar T W0 g b) (y:Int×Int) (hM:lC b c=some y):a7 aO No 85 [g,al c] W0 (fun v w'=>v = .tuple #[al y.1,al y.2]):=by
 refine en Tryz.func85 Tryz.ntmps85 hT fun a hS=>?_;replace hS:=hS.fS (aC.dn G);unfold lC at hM;refine am hS fun a hS=>?_;refine ay ?_;refine jg ?_;refine am hS fun a hS=>?_;rcases cd hM with⟨x,hM⟩|⟨x,hM⟩
 ·refine am hS fun a hS=>?_;cases hM
  refine aG hS Tryz.results85 (aw hS rfl (aw hS rfl aF)) ?_;exact rfl
 refine am hS fun a hS=>?_;rcases cd hM with⟨z,hM⟩|⟨z,hM⟩
 ·refine am hS fun a hS=>?_;cases hM
  refine aG hS Tryz.results85 (aw hS rfl (aw hS rfl aF)) ?_;exact rfl
 refine am hS fun a hS=>?_;refine aK (J:=fun a w=>∃ (d:Int),St W0 No T 60 [(0,g),(1,al c),(6,al d),(7,al (IntKind.i64.wrap (c+1)))] [] [aL ar g b] a w∧jA b c d=some y) ?_ ?_
 ·skip;refine am hS fun a hS=>?_;obtain⟨r1,k,hMo1⟩:=bd hM;refine bx _ (fun s a w=>∃ (e:Int),e=s∧St W0 No T 60 [(0,g),(1,al c),(6,al e),(7,al (IntKind.i64.wrap (c+1)))] [] [aL ar g b] a w) k ⟨_,rfl,hS.mt [] [0]⟩ ?_;rintro s a w u ⟨e,rfl,hS⟩ hM hf1;have hM:ee b c e=some u:=hM;unfold ee at hM;refine ay ?_;refine jg ?_;refine am hS fun a hS=>?_;obtain⟨U,n,hM⟩:=bd hM;refine wl rfl (bu (R:=ar) hS vk pM rfl rfl 0 rfl n rfl fun H W M A a hS=>?_);obtain⟨a1,rfl,p⟩:=A;replace hS:=hS.fS p;refine am hS fun a hS=>?_;rcases cd hM with⟨B,hM⟩|⟨B,hM⟩
  ·refine am hS fun a hS=>?_;rcases cd hM with⟨i,hM⟩|⟨i,hM⟩
   ·refine am hS fun a hS=>?_;obtain⟨V,o,hM⟩:=bd hM;refine wg hS rfl rfl rfl i (bu (R:=ar) hS vk pM rfl rfl 2 rfl o rfl fun I X N C a hS=>?_);obtain⟨a2,rfl,q⟩:=C;replace hS:=hS.fS q;exact fz
   exact fz
  exact fz
 rintro a w ⟨d,hS,hM⟩;unfold jA at hM;refine aK (J:=fun a w=>∃ (h:Int),St W0 No T 60 [(6,al d),(7,al h)] [] [] a w∧jz d h=some y) ?_ ?_
 ·skip;refine am hS fun a hS=>?_;obtain⟨r1,k,hMo1⟩:=bd hM;refine bx _ (fun s a w=>∃ (f:Int),f=s∧St W0 No T 60 [(0,g),(1,al c),(6,al d),(7,al f)] [] [aL ar g b] a w) k ⟨_,rfl,hS.mt [] [0]⟩ ?_;rintro s a w u ⟨f,rfl,hS⟩ hM hf1;have hM:d9 b c f=some u:=hM;unfold d9 at hM;refine ay ?_;refine jg ?_;refine am hS fun a hS=>?_;obtain⟨Q,l,hM⟩:=bd hM;refine wl rfl (bu (R:=ar) hS vk pM rfl rfl 0 rfl l rfl fun K Y O D a hS=>?_);obtain⟨a3,rfl,r⟩:=D;replace hS:=hS.fS r;refine am hS fun a hS=>?_;rcases cd hM with⟨E,hM⟩|⟨E,hM⟩
  ·refine am hS fun a hS=>?_;rcases cd hM with⟨j,hM⟩|⟨j,hM⟩
   ·refine am hS fun a hS=>?_;obtain⟨S,m,hM⟩:=bd hM;refine wg hS rfl rfl rfl j (bu (R:=ar) hS vk pM rfl rfl 2 rfl m rfl fun L Z P F a hS=>?_);obtain⟨a4,rfl,t⟩:=F;replace hS:=hS.fS t;exact fz
   exact fz
  exact fz
 rintro a w ⟨h,hS,hM⟩;unfold jz at hM;refine am hS fun a hS=>?_;cases hM
 refine aG hS Tryz.results85 (aw hS rfl (aw hS rfl aF)) ?_;exact rfl
def kH (d:LU) (b:LN) (c:Int):Option (LU×aY):=some ((d,(aY.mk b c)))
def ni (d:Int) (e:LU) (b:LN) (c:Int):Option (Fl (LU×Int×LN×Int) (LU×LN×Int)):=some (.go (e,IntKind.i64.wrap (d+1),b,c))
def kI (c:LU) (b:Int) (f:Bool) (g:Int) (h:Int) (d:LN) (e:Int) (i:(List cD)):Option (Fl (LU×Int×LN×Int) (LU×LN×Int)):=(bk c b).bind fun j=>ni b (c.set (Int.toNat b) (aI.mk f i g h)) d e
def nj (d:Int) (b:LN) (c:Int) (e:(List cD)):Option (Fl (Int×LN×Int×(List cD)) (LN×Int×(List cD))):=some (.go (IntKind.i64.wrap (d-1),b,c,e))
def iP (i:Int) (b:(List cD)) (c:Bool) (d:Int) (g:LN) (h:Int) (e:Bool) (f:Int):Option (Fl (Int×LN×Int×(List cD)) (LN×Int×(List cD))):=gd (bL (b.length+([(cD.mk c e d f)]).length)) <| nj i g h (b++([(cD.mk c e d f)]))
def gk (e:Int) (f:(List cD)) (g:Bool) (j:Int) (h:Int) (i:Bool) (c:LN) (d:Int):Option (Fl (Int×LN×Int×(List cD)) (LN×Int×(List cD))):=cond i ((bI (aY.mk c d) j).bind fun b=>iP e f g h b.2.L b.2.At true b.1) (iP e f g h c d false 0)
def iQ (j:Bool) (e:Int) (b:(List cD)) (h:Bool) (f:Int) (c:LN) (d:Int) (i:Int):Option (Fl (Int×LN×Int×(List cD)) (LN×Int×(List cD))):=cond (!(j)) (cond (decide ((0:Int)<(b.length:Int))) ((bI (aY.mk c d) 3).bind fun g=>gk e b h f i (g.1==1) g.2.L g.2.At) (gk e b h f i false c d)) (gk e b h f i false c d)
def iR (g:Bool) (f:Int) (h:(List cD)) (i:Bool) (b:Int) (k:(Int×aY)) (j:Bool) (d:LN) (e:Int):Option (Fl (Int×LN×Int×(List cD)) (LN×Int×(List cD))):=cond j ((bI (aY.mk d e) (min b 3)).bind fun c=>iQ g f h i b c.2.L c.2.At (IntKind.i64.wrap ((IntKind.i64.wrap (b-1))-c.1))) (iQ g f h i b d e k.1)
def iS (g:Bool) (f:Int) (h:(List cD)) (i:LN) (j:Int) (e:Bool) (c:Int):Option (Fl (Int×LN×Int×(List cD)) (LN×Int×(List cD))):=(bI (aY.mk i j) c).bind fun b=>cond (!(e)) ((bI (aY.mk b.2.L b.2.At) 2).bind fun d=>iR g f h e c b (d.1==0) d.2.L d.2.At) (iR g f h e c b false b.2.L b.2.At)
def gF (h:Int) (f:Bool) (e:Int) (g:(List cD)) (c:LN) (d:Int) (b:Bool):Option (Fl (Int×LN×Int×(List cD)) (LN×Int×(List cD))):=cond b (iS f e g c d b 4) (iS f e g c d b h)
def gJ (c:Int) (h:Bool) (d:Int) (f:LN) (g:Int) (e:(List cD)):Option (Fl (Int×LN×Int×(List cD)) (LN×Int×(List cD))):=cond (decide ((0:Int)<d)) ((bI (aY.mk f g) 3).bind fun b=>cond (b.1==0) (gF c h d e b.2.L b.2.At true) (gF c h d e b.2.L b.2.At (c==0))) (some (.out (f,g,e)))
def gG (h:LU) (g:Int) (d:Int) (c:Bool) (e:LN) (f:Int) (i:Int) (j:Int):Option (Fl (LU×Int×LN×Int) (LU×LN×Int)):=(bI (aY.mk e f) 4).bind fun b=>(loop (fun s:Int×LN×Int×(List cD)=>gJ d c s.1 s.2.1 s.2.2.1 s.2.2.2) (b.1,b.2.L,b.2.At,([]:List cD))).bind fun r=>kI h g c i j r.1 r.2.1 r.2.2
def lW (h:LU) (g:Int) (d:Int) (e:LN) (f:Int) (b:Bool) (j:Int) (k:Int):Option (Fl (LU×Int×LN×Int) (LU×LN×Int)):=cond b ((bI (aY.mk e f) 6).bind fun c=>(bk ([0,1,2,4,8,16]) c.1).bind fun i=>gG h g d b c.2.L c.2.At 5 i) (gG h g d b e f j k)
def gI (e:LU) (d:Int) (g:LN) (h:Int) (f:Int):Option (Fl (LU×Int×LN×Int) (LU×LN×Int)):=(bk e d).bind fun i=>(bI (aY.mk g h) 4).bind fun b=>(bI (aY.mk b.2.L b.2.At) 6).bind fun c=>lW e d f c.2.L c.2.At i.Ring (IntKind.i64.wrap (1+b.1)) c.1
def gK (h:LU) (c:LU) (b:Int) (d:LN) (e:Int):Option (Fl (LU×Int×LN×Int) (LU×LN×Int)):=cond (decide (b<(h.length:Int))) ((lC c b).bind fun f=>(bk c b).bind fun g=>cond (!(g.Ring)) (gI c b d e f.1) (gI c b d e f.2)) (some (.out (c,d,e)))
def ju (b:LU) (c:LN) (d:Int):Option (LU×aY):=(loop (fun s:LU×Int×LN×Int=>gK b s.1 s.2.1 s.2.2.1 s.2.2.2) (b,0,c,d)).bind fun r=>kH r.1 r.2.1 r.2.2
def lX (c:LU) (f:Int) (d:LN) (e:Int):Option (Fl (LU×Int×LN×Int) (LU×LN×Int)):=cond (decide ((0:Int)<f)) ((bI (aY.mk d e) 3).bind fun b=>gd (bL (c.length+([(aI.mk (b.1==1) ([]) 0 0)]).length)) <| some (.go ((c++([(aI.mk (b.1==1) ([]) 0 0)])),IntKind.i64.wrap (f-1),b.2.L,b.2.At))) (some (.out (c,d,e)))
def o0 (c:aY):Option (LU×aY):=(bI c 7).bind fun b=>(loop (fun s:LU×Int×LN×Int=>lX s.1 s.2.1 s.2.2.1 s.2.2.2) (([]:List aI),IntKind.i64.wrap (2+b.1),b.2.L,b.2.At)).bind fun r=>ju r.1 r.2.1 r.2.2
theorem zB (T:Nat→Prop) (W0:World) (hT:TW T W0) (d1:aY) (h:Value) (e:Nat) (k4:W0.heap[e]? = some (.cells (be d1 h).toArray 73 (0,0))) (i9:¬ T e) (kt:aC (aR.int .i64) (dT T [.box e (be d1 h) 73]) W0 h d1.L) (y:LU×aY) (hM:o0 d1=some y):a7 aO (fun k=>k=e) 56 [pt e 0] W0 (fun v w'=>∃ (v3:Value) (uQ:ba) (v5:Value),v=v3∧ge ar T W0 w' [bJ v3 uQ,.box e (be y.2 v5) 73] 115 v3 uQ y.1∧w'.heap[e]? = some (.cells (be y.2 v5).toArray 73 (0,0))∧aC (aR.int .i64) (dT T [bJ v3 uQ,.box e (be y.2 v5) 73]) w' v5 y.2.L∧h=v5):=by
 refine qG (c:=_) Tryz.func56 rfl T 132 Tryz.ntmps56 hT rfl k4 i9 fun a hS=>?_;replace hS:=hS.fS kt;unfold o0 at hM;refine am hS fun a hS=>?_;refine aK (J:=fun a w=>∃ (r:LU) (ei:LN) (el:Int) (d:Value) (d3:LV),St W0 (fun k=>k=e) T 132 [(0,pt e 0),(3,d)] [bJ d d3,.box e [h,al el] 73] [an ar d3 r,aL (aR.int .i64) h ei] a w∧ju r ei el=some y) ?_ ?_
 ·skip;refine am hS fun a hS=>?_;obtain⟨k1,hh,hM⟩:=bd hM;refine wl rfl (cj hS lM rfl rfl 0 rfl (bo _ _ (hS.drop 0).dlt d1 7 _ _ (hS.boxRow 0 rfl) (hS.notin 0 rfl) (aC.lent (i:=0) rfl (hS.get 0 rfl)) _ hh) fun _ w hR hk=>?_);obtain⟨ng,he,hrow,g2,bs⟩:=hR;obtain rfl:=he.symm;subst bs;refine⟨(be k1.2 h),hrow,fun a hS=>?_⟩;replace hS:=hS.fS (aC.back (i:=0) rfl g2);refine am hS fun a hS=>?_;replace hS:=hS.nilRow ar 115 (by decide);obtain⟨r1,h1,hMo1⟩:=bd hM;refine bx _ (fun s a w=>∃ (a1:LU) (cl:Int) (Y:LN) (Z:Int) (f5:Value) (d4:LV),(a1,cl,Y,Z)=s∧St W0 (fun k=>k=e) T 132 [(0,pt e 0),(3,f5),(4,al cl)] [bJ f5 d4,.box e [h,al Z] 73] [an ar d4 a1,aL (aR.int .i64) h Y] a w) h1 ⟨_,_,_,_,_,_,rfl,hS.mt [0,1] [0,1]⟩ ?_;rintro s a w f1 ⟨a1,cl,Y,Z,f5,d4,rfl,hS⟩ hM hf1;have hM:lX a1 cl Y Z=some f1:=hM;unfold lX at hM;refine ay ?_;refine am hS fun a hS=>?_;rcases cd hM with⟨hw,hM⟩|⟨hw,hM⟩
  ·refine am hS fun a hS=>?_;refine ay ?_;refine am hS fun a hS=>?_;obtain⟨M,hg,hM⟩:=bd hM;refine wl rfl (cj hS lM rfl rfl 1 rfl (bo _ _ (hS.drop 1).dlt (aY.mk Y Z) 3 _ _ (hS.boxRow 1 rfl) (hS.notin 1 rfl) (aC.lent (i:=1) rfl (hS.get 1 rfl)) _ hg) fun _ w hR hk=>?_);obtain⟨nl,he,hrow,g3,bt⟩:=hR;obtain rfl:=he.symm;subst bt;refine⟨(be M.2 h),hrow,fun a hS=>?_⟩;replace hS:=hS.fS (aC.back (i:=1) rfl g3);refine am hS fun a hS=>?_;refine qy hS (bp (ps:=[(0,.tmp 22)]) hS CJ rK rfl (us:=[[.bool (M.1==1)]]) ⟨rfl,trivial⟩ (ws:=[.bool (M.1==1),.slice none 0 0,al 0,al 0]) rfl) fun a hS=>?_;refine wl rfl (bj (ps:=[(0,.tmp 23)]) hS Gg rK (zl:=[.bool false,.slice none 0 0,al 0,al 0]) (by kernel_rfl) rfl (us:=[[.bool (M.1==1),.slice none 0 0,al 0,al 0]]) ⟨rfl,trivial⟩ (ws:=[.bool (M.1==1),.slice none 0 0,al 0,al 0]) rfl rfl rfl rfl fun l0 a w hk hS=>?_);replace hS:=(hS.lit (R:=ar) (us:=[.bool (M.1==1),.slice none 0 0,al 0,al 0]) (xs:=[(aI.mk (M.1==1) ([]) 0 0)]) 0 rfl (by decide) (az.one_ (R:=ar) (x:=(aI.mk (M.1==1) ([]) 0 0)) (⟨_,rfl,aC.nil_ _ _ _⟩)) rfl rfl).freeze (R:=ar) 0 rfl 0 rfl;obtain⟨hx,hM⟩:=bm hM;refine wl rfl (bB (R:=ar) (xs:=a1) (ys:=[(aI.mk (M.1==1) ([]) 0 0)]) hS Gg (by decide) (by decide) rfl rfl 0 rfl 3 rfl 0 rfl hx rfl fun nm ls a w hk hS=>?_);refine am hS fun a hS=>?_;exact⟨_,(bO hM).symm,_,_,_,_,_,_,rfl,hS.mt [0,1] [0,3]⟩
  refine am hS fun a hS=>?_;cases hM
  have hr:=hf1 _ rfl;subst hr;have hM:ju a1 Y Z=some y:=hMo1;exact⟨_,_,_,_,_,hS.mt [0,1] [0,1],hM⟩
 rintro a w ⟨r,ei,el,d,d3,hS,hM⟩;unfold ju at hM;refine aK (J:=fun a w=>∃ (et:LU) (ds:LN) (e0:Int) (c0:LV),St W0 (fun k=>k=e) T 132 [(3,d)] [bJ d c0,.box e [h,al e0] 73] [an ar c0 et,aL (aR.int .i64) h ds] a w∧kH et ds e0=some y) ?_ ?_
 ·skip;refine am hS fun a hS=>?_;obtain⟨r1,h1,hMo1⟩:=bd hM;refine bx _ (fun s a w=>∃ (m:LU) (b:Int) (I:LN) (K:Int) (g:LV),(m,b,I,K)=s∧St W0 (fun k=>k=e) T 132 [(0,pt e 0),(3,d),(27,al (r.length:Int)),(28,al b)] [bJ d g,.box e [h,al K] 73] [an ar g m,aL (aR.int .i64) h I] a w) h1 ⟨_,_,_,_,_,rfl,hS.mt [0,1] [0,1]⟩ ?_;rintro s a w f1 ⟨m,b,I,K,g,rfl,hS⟩ hM hf1;have hM:gK r m b I K=some f1:=hM;unfold gK at hM;refine am hS fun a hS=>?_;refine ay ?_;rcases cd hM with⟨hy,hM⟩|⟨hy,hM⟩
  ·refine am hS fun a hS=>?_;refine aK (J:=fun a w=>∃ (ew:LU) (e2:LN) (e3:Int) (d6:LV),St W0 (fun k=>k=e) T 132 [(0,pt e 0),(3,d),(27,al (r.length:Int)),(28,al b)] [bJ d d6,.box e [h,al e3] 73] [an ar d6 ew,aL (aR.int .i64) h e2] a w∧ni b ew e2 e3=some f1) ?_ ?_
   ·skip;refine am hS fun a hS=>?_;have hL:=hS;replace hL:=hL.freeze (R:=ar) 0 rfl 0 rfl;obtain⟨nd,hf,hM⟩:=bd hM;refine kc hS JU (s9 _ _ hL.dlt m b _ (hL.get 0 rfl) _ hf) fun _ w hR a hk hA=>?_;obtain rfl:=hR;have hS:=ce hA;refine am hS fun a hS=>?_;refine aK (J:=fun a w=>∃ (o:Int),St W0 (fun k=>k=e) T 132 [(0,pt e 0),(3,d),(5,al b),(7,al o),(27,al (r.length:Int)),(28,al b)] [bJ d g,.box e [h,al K] 73] [an ar g m,aL (aR.int .i64) h I] a w∧gI m b I K o=some f1) ?_ ?_
    ·skip;refine am hS fun a hS=>?_;obtain⟨hv,h6,hM⟩:=bd hM;refine wl rfl (c7 (R:=ar) hS vk pM rfl rfl 0 rfl 0 rfl h6 rfl fun l1 md mv lt hz hB hC a hS=>?_);obtain⟨no,rfl,hj⟩:=hz;replace hS:=hS.fS hj;refine am hS fun a hS=>?_;refine qy hS (bq (k:=0) hS I0 0 rfl hB hC rfl id (us:=[.bool hv.Ring]) rfl rfl (fun _=>rfl)) fun a hS=>?_;exact fz
    rintro a w ⟨o,hS,hM⟩;unfold gI at hM;refine aK (J:=fun a w=>∃ (a3:LN) (a4:Int) (n:Bool) (f3:Int) (f4:Int) (f:Nat),St W0 (fun k=>k=e) T 132 [(0,pt e 0),(3,d),(5,al b),(7,al o),(8,pt f 0),(27,al (r.length:Int)),(28,al b)] [bJ d g,.box e [h,al a4] 73,.box f [.bool n,.slice none 0 0,al f3,al f4] 115] [an ar g m,aL (aR.int .i64) h a3] a w∧lW m b o a3 a4 n f3 f4=some f1) ?_ ?_
    ·skip;obtain⟨N196,h4⟩:∃ N,N=w.heap.size:=⟨_,rfl⟩;replace hS:=hS.fact (Dc N196) (qB h4);refine dr [(6,.blk (some e)),(9,.blk (some e)),(12,.new N196)] hS fun w hQ hS=>?_;refine gE [0,1] hS fun a hS=>?_;obtain⟨G,h5,hM⟩:=bd hM;obtain⟨ho,ib,n0,lv,hD,er,hE,hF⟩:=bP (R:=ar) hS vk pM 0 rfl 1 rfl h5;obtain⟨np,rfl,hl⟩:=hD;replace hS:=hS.fS hl;refine dy 2 (v:=pt ho ib) rfl (by kernel_rfl) (by kernel_rfl) (by kernel_rfl) rfl hQ hS (hF rfl rfl) rfl rfl rfl fun a hS=>?_;refine gE [3] hS fun a hS=>?_;refine dy (l:=[.blk (some e),.blk (some e)]) 4 (v:=.bool G.Ring) rfl (by kernel_rfl) (by kernel_rfl) (by kernel_rfl) (by kernel_rfl) hQ hS (bq (k:=0) hS I0 0 rfl er hE rfl (gA hS 0 rfl (uj er) 1 rfl rfl (by decide) (gA hS 0 rfl (uj er) 1 rfl rfl (by decide) bn)) (us:=[.bool G.Ring]) rfl rfl (fun _=>rfl)) rfl rfl rfl fun a hS=>?_;refine gE [5,8] hS fun a hS=>?_;obtain⟨u,fr,hM⟩:=bd hM;refine dm (i:=6) (j:=11) rfl rfl (by kernel_rfl) rfl rfl ?_ ?_
     ·skip;skip;refine id (cj hS lM rfl rfl 1 rfl (bo _ _ (hS.drop 1).dlt (aY.mk I K) 4 _ _ (hS.boxRow 1 rfl) (hS.notin 1 rfl) (aC.lent (i:=1) rfl (hS.get 3 rfl)) _ fr) fun _ w hR hk=>?_);obtain⟨nv,he,hrow,g4,bb⟩:=hR;obtain rfl:=he.symm;subst bb;refine⟨(be u.2 h),hrow,fun a hS=>⟨ij rfl hk hU,?_⟩⟩;replace hS:=hS.fS (aC.back (i:=1) rfl g4);refine gE [7] hS fun a hS=>?_;obtain⟨Q,fs,hM⟩:=bd hM;refine dm (i:=9) (j:=11) rfl rfl (by kernel_rfl) rfl rfl ?_ ?_
      ·skip;skip;refine id (cj hS lM rfl rfl 1 rfl (bo _ _ (hS.drop 1).dlt (aY.mk u.2.L u.2.At) 6 _ _ (hS.boxRow 1 rfl) (hS.notin 1 rfl) (aC.lent (i:=1) rfl (hS.get 0 rfl)) _ fs) fun _ w hR hk=>?_);obtain⟨o1,he,hrow,g5,bi⟩:=hR;obtain rfl:=he.symm;subst bi;refine⟨(be Q.2 h),hrow,fun a hS=>⟨ij rfl hk hU,?_⟩⟩;replace hS:=hS.fS (aC.back (i:=1) rfl g5);refine dy 10 (v:=.agg #[.bool G.Ring,.slice none 0 0,al (IntKind.i64.wrap (1+u.1)),al Q.1]) rfl (by kernel_rfl) (by kernel_rfl) (by kernel_rfl) rfl hQ hS (bp (ps:=[(0,.tmp 48),(2,.tmp 51),(3,.tmp 53)]) hS CJ rK rfl (us:=[[.bool G.Ring],[al (IntKind.i64.wrap (1+u.1))],[al Q.1]]) ⟨rfl,⟨rfl,⟨rfl,trivial⟩⟩⟩ (ws:=[.bool G.Ring,.slice none 0 0,al (IntKind.i64.wrap (1+u.1)),al Q.1]) rfl) rfl rfl rfl fun a hS=>?_;have hG:=(hS.get 3 rfl:N196≤w.heap.size);refine e1 11 (cC hS rK rfl fun hp hH a w hk hS=>⟨fA (hk),?_⟩);refine cL 12 (.blk (some hp)) _ (by kernel_rfl) (lR (cH hG hH)) ?_;refine es 12 hS fun w hS=>?_;refine eD ?_;exact⟨_,_,_,_,_,_,hS.mt [1,2,0] [4,0],hM⟩
      skip;have hI:=(hS.get 2 rfl:N196≤w.heap.size);refine id (cC hS rK rfl fun hq hK a w hk hS=>⟨fA (hk),?_⟩);refine cL 12 (.blk (some hq)) _ (by kernel_rfl) (lR (cH hI hK)) ?_;refine e1 9 (cj hS lM rfl rfl 2 rfl (bo _ _ (hS.drop 2).dlt (aY.mk u.2.L u.2.At) 6 _ _ (hS.boxRow 2 rfl) (hS.notin 2 rfl) (aC.lent (i:=2) rfl (hS.get 0 rfl)) _ fs) fun _ w hR hk=>?_);obtain⟨k2,he,hrow,af,H⟩:=hR;obtain rfl:=he.symm;subst H;refine⟨(be Q.2 h),hrow,fun a hS=>⟨ij rfl hk hU,?_⟩⟩;replace hS:=hS.fS (aC.back (i:=2) rfl af);refine dy 10 (v:=.agg #[.bool G.Ring,.slice none 0 0,al (IntKind.i64.wrap (1+u.1)),al Q.1]) rfl (by kernel_rfl) (by kernel_rfl) (by kernel_rfl) rfl hQ hS (bp (ps:=[(0,.tmp 48),(2,.tmp 51),(3,.tmp 53)]) hS CJ rK rfl (us:=[[.bool G.Ring],[al (IntKind.i64.wrap (1+u.1))],[al Q.1]]) ⟨rfl,⟨rfl,⟨rfl,trivial⟩⟩⟩ (ws:=[.bool G.Ring,.slice none 0 0,al (IntKind.i64.wrap (1+u.1)),al Q.1]) rfl) rfl rfl rfl fun a hS=>?_;refine es 12 hS fun w hS=>?_;refine eD ?_;exact⟨_,_,_,_,_,_,hS.mt [1,2,0] [4,0],hM⟩
     skip;have hN:=(hS.get 1 rfl:N196≤w.heap.size);refine id (cC hS rK rfl fun hs hP a w hk hS=>⟨fA (hk),?_⟩);refine cL 12 (.blk (some hs)) _ (by kernel_rfl) (lR (cH hN hP)) ?_;refine e1 6 (cj hS lM rfl rfl 2 rfl (bo _ _ (hS.drop 2).dlt (aY.mk I K) 4 _ _ (hS.boxRow 2 rfl) (hS.notin 2 rfl) (aC.lent (i:=2) rfl (hS.get 3 rfl)) _ fr) fun _ w hR hk=>?_);obtain⟨o2,he,hrow,g6,bl⟩:=hR;obtain rfl:=he.symm;subst bl;refine⟨(be u.2 h),hrow,fun a hS=>⟨ij rfl hk hU,?_⟩⟩;replace hS:=hS.fS (aC.back (i:=2) rfl g6);refine gE [7] hS fun a hS=>?_;obtain⟨cv,hi,hM⟩:=bd hM;refine e1 9 (cj hS lM rfl rfl 2 rfl (bo _ _ (hS.drop 2).dlt (aY.mk u.2.L u.2.At) 6 _ _ (hS.boxRow 2 rfl) (hS.notin 2 rfl) (aC.lent (i:=2) rfl (hS.get 0 rfl)) _ hi) fun _ w hR hk=>?_);obtain⟨k2,he,hrow,af,H⟩:=hR;obtain rfl:=he.symm;subst H;refine⟨(be cv.2 h),hrow,fun a hS=>⟨ij rfl hk hU,?_⟩⟩;replace hS:=hS.fS (aC.back (i:=2) rfl af);refine dy 10 (v:=.agg #[.bool G.Ring,.slice none 0 0,al (IntKind.i64.wrap (1+u.1)),al cv.1]) rfl (by kernel_rfl) (by kernel_rfl) (by kernel_rfl) rfl hQ hS (bp (ps:=[(0,.tmp 48),(2,.tmp 51),(3,.tmp 53)]) hS CJ rK rfl (us:=[[.bool G.Ring],[al (IntKind.i64.wrap (1+u.1))],[al cv.1]]) ⟨rfl,⟨rfl,⟨rfl,trivial⟩⟩⟩ (ws:=[.bool G.Ring,.slice none 0 0,al (IntKind.i64.wrap (1+u.1)),al cv.1]) rfl) rfl rfl rfl fun a hS=>?_;refine es 12 hS fun w hS=>?_;refine eD ?_;exact⟨_,_,_,_,_,_,hS.mt [1,2,0] [4,0],hM⟩
    rintro a w ⟨a3,a4,n,f3,f4,f,hS,hM⟩;unfold lW at hM;refine aK (J:=fun a w=>∃ (ca:LN) (ch:Int) (z:Int) (A:Int),St W0 (fun k=>k=e) T 132 [(0,pt e 0),(3,d),(5,al b),(7,al o),(8,pt f 0),(27,al (r.length:Int)),(28,al b)] [bJ d g,.box e [h,al ch] 73,.box f [.bool n,.slice none 0 0,al z,al A] 115] [an ar g m,aL (aR.int .i64) h ca] a w∧gG m b o n ca ch z A=some f1) ?_ ?_
    ·skip;refine am hS fun a hS=>?_;rcases cd hM with⟨hV,hM⟩|⟨hV,hM⟩
     ·refine am hS fun a hS=>?_;refine dr [(2,.blk (some e)),(6,.blk (some f)),(8,.blk (some f))] hS fun w hQ hS=>?_;refine gE [1,5] hS fun a hS=>?_;obtain⟨h2,fn,hM⟩:=bd hM;refine dm (i:=0) (j:=2) rfl rfl (by kernel_rfl) rfl rfl ?_ ?_
      ·skip;skip;refine id (bj (ps:=[(0,.const (al 0)),(1,.const (al 1)),(2,.const (al 2)),(3,.const (al 4)),(4,.const (al 8)),(5,.const (al 16))]) hS EA KD (zl:=[al 0,al 0,al 0,al 0,al 0,al 0]) (by kernel_rfl) rfl (us:=[[al 0],[al 1],[al 2],[al 4],[al 8],[al 16]]) ⟨rfl,⟨rfl,⟨rfl,⟨rfl,⟨rfl,⟨rfl,trivial⟩⟩⟩⟩⟩⟩ (ws:=[al 0,al 1,al 2,al 4,al 8,al 16]) rfl rfl rfl rfl fun l2 a w hk hS=>⟨fA (hk),?_⟩);refine e1 2 (cj hS lM rfl rfl 2 rfl (bo _ _ (hS.drop 2).dlt (aY.mk a3 a4) 6 _ _ (hS.boxRow 2 rfl) (hS.notin 2 rfl) (aC.lent (i:=2) rfl (hS.get 1 rfl)) _ fn) fun _ w hR hk=>?_);obtain⟨o3,he,hrow,g7,b9⟩:=hR;obtain rfl:=he.symm;subst b9;refine⟨(be h2.2 h),hrow,fun a hS=>⟨ij rfl hk hU,?_⟩⟩;replace hS:=((hS.fS (aC.back (i:=2) rfl g7)).lit (R:=(aR.int .i64)) (us:=[al 0,al 1,al 2,al 4,al 8,al 16]) (xs:=[0,1,2,4,8,16]) 0 rfl (by decide) ((az.one_ (R:=(aR.int .i64)) (x:=0) rfl).append ((az.one_ (R:=(aR.int .i64)) (x:=1) rfl).append ((az.one_ (R:=(aR.int .i64)) (x:=2) rfl).append ((az.one_ (R:=(aR.int .i64)) (x:=4) rfl).append ((az.one_ (R:=(aR.int .i64)) (x:=8) rfl).append (az.one_ (R:=(aR.int .i64)) (x:=16) rfl)))))) rfl rfl).freeze (R:=(aR.int .i64)) 0 rfl 0 rfl;obtain⟨a0,S,hM⟩:=bd hM;obtain⟨a2,ag,fM,a5,a9,hS⟩:=m6 (R:=(aR.int .i64)) hS DQ zM 0 rfl S;obtain rfl:=a5;refine dy 3 (v:=pt a2 ag) rfl (by kernel_rfl) (by kernel_rfl) (by kernel_rfl) rfl hQ hS (a9 rfl rfl) rfl rfl rfl fun a hS=>?_;refine dy (l:=[.blk (some f)]) 4 (v:=al a0) rfl (by kernel_rfl) (by kernel_rfl) (by kernel_rfl) (by kernel_rfl) hQ hS (uK (k:=0) hS zM 0 rfl rfl (HC 2 rfl rfl BO) (us:=[al a0]) rfl rfl (fun _=>rfl)) rfl rfl rfl fun a hS=>?_;refine es 6 hS fun w hS=>?_;refine gE [7] hS fun a hS=>?_;refine es 8 hS fun w hS=>?_;refine eD ?_;exact⟨_,_,_,_,hS.mt [0,1,2] [4,3],hM⟩
      skip;refine id (cj hS lM rfl rfl 1 rfl (bo _ _ (hS.drop 1).dlt (aY.mk a3 a4) 6 _ _ (hS.boxRow 1 rfl) (hS.notin 1 rfl) (aC.lent (i:=1) rfl (hS.get 1 rfl)) _ fn) fun _ w hR hk=>?_);obtain⟨of,he,hrow,g8,b8⟩:=hR;obtain rfl:=he.symm;subst b8;refine⟨(be h2.2 h),hrow,fun a hS=>⟨ij rfl hk hU,?_⟩⟩;replace hS:=hS.fS (aC.back (i:=1) rfl g8);refine dm (i:=0) (j:=6) rfl rfl (by kernel_rfl) rfl rfl ?_ ?_
      ·skip;skip;refine id (bj (ps:=[(0,.const (al 0)),(1,.const (al 1)),(2,.const (al 2)),(3,.const (al 4)),(4,.const (al 8)),(5,.const (al 16))]) hS EA KD (zl:=[al 0,al 0,al 0,al 0,al 0,al 0]) (by kernel_rfl) rfl (us:=[[al 0],[al 1],[al 2],[al 4],[al 8],[al 16]]) ⟨rfl,⟨rfl,⟨rfl,⟨rfl,⟨rfl,⟨rfl,trivial⟩⟩⟩⟩⟩⟩ (ws:=[al 0,al 1,al 2,al 4,al 8,al 16]) rfl rfl rfl rfl fun ht a w hk hS=>⟨fA (hk),?_⟩);replace hS:=(hS.lit (R:=(aR.int .i64)) (us:=[al 0,al 1,al 2,al 4,al 8,al 16]) (xs:=[0,1,2,4,8,16]) 0 rfl (by decide) ((az.one_ (R:=(aR.int .i64)) (x:=0) rfl).append ((az.one_ (R:=(aR.int .i64)) (x:=1) rfl).append ((az.one_ (R:=(aR.int .i64)) (x:=2) rfl).append ((az.one_ (R:=(aR.int .i64)) (x:=4) rfl).append ((az.one_ (R:=(aR.int .i64)) (x:=8) rfl).append (az.one_ (R:=(aR.int .i64)) (x:=16) rfl)))))) rfl rfl).freeze (R:=(aR.int .i64)) 0 rfl 0 rfl;obtain⟨a0,S,hM⟩:=bd hM;obtain⟨a2,ag,fM,a5,a9,hS⟩:=m6 (R:=(aR.int .i64)) hS DQ zM 0 rfl S;obtain rfl:=a5;refine dy 3 (v:=pt a2 ag) rfl (by kernel_rfl) (by kernel_rfl) (by kernel_rfl) rfl hQ hS (a9 rfl rfl) rfl rfl rfl fun a hS=>?_;refine dy (l:=[.blk (some f)]) 4 (v:=al a0) rfl (by kernel_rfl) (by kernel_rfl) (by kernel_rfl) (by kernel_rfl) hQ hS (uK (k:=0) hS zM 0 rfl rfl (HC 2 rfl rfl BO) (us:=[al a0]) rfl rfl (fun _=>rfl)) rfl rfl rfl fun a hS=>?_;refine es 6 hS fun w hS=>?_;refine gE [7] hS fun a hS=>?_;refine es 8 hS fun w hS=>?_;refine eD ?_;exact⟨_,_,_,_,hS.mt [0,1,2] [4,3],hM⟩
      skip;refine id (qK hS rfl rfl (us:=[al 5]) rfl zM 2 rfl rfl rfl (oc rfl on) fun w hk hS=>⟨ij rfl hk hU,?_⟩);refine e1 0 (bj (ps:=[(0,.const (al 0)),(1,.const (al 1)),(2,.const (al 2)),(3,.const (al 4)),(4,.const (al 8)),(5,.const (al 16))]) hS EA KD (zl:=[al 0,al 0,al 0,al 0,al 0,al 0]) (by kernel_rfl) rfl (us:=[[al 0],[al 1],[al 2],[al 4],[al 8],[al 16]]) ⟨rfl,⟨rfl,⟨rfl,⟨rfl,⟨rfl,⟨rfl,trivial⟩⟩⟩⟩⟩⟩ (ws:=[al 0,al 1,al 2,al 4,al 8,al 16]) rfl rfl rfl rfl fun ht a w hk hS=>⟨fA (hk),?_⟩);replace hS:=(hS.lit (R:=(aR.int .i64)) (us:=[al 0,al 1,al 2,al 4,al 8,al 16]) (xs:=[0,1,2,4,8,16]) 0 rfl (by decide) ((az.one_ (R:=(aR.int .i64)) (x:=0) rfl).append ((az.one_ (R:=(aR.int .i64)) (x:=1) rfl).append ((az.one_ (R:=(aR.int .i64)) (x:=2) rfl).append ((az.one_ (R:=(aR.int .i64)) (x:=4) rfl).append ((az.one_ (R:=(aR.int .i64)) (x:=8) rfl).append (az.one_ (R:=(aR.int .i64)) (x:=16) rfl)))))) rfl rfl).freeze (R:=(aR.int .i64)) 0 rfl 0 rfl;obtain⟨a0,S,hM⟩:=bd hM;obtain⟨a2,ag,fM,a5,a9,hS⟩:=m6 (R:=(aR.int .i64)) hS DQ zM 0 rfl S;obtain rfl:=a5;refine dy 3 (v:=pt a2 ag) rfl (by kernel_rfl) (by kernel_rfl) (by kernel_rfl) rfl hQ hS (a9 rfl rfl) rfl rfl rfl fun a hS=>?_;refine gE [4,7] hS fun a hS=>?_;refine es 8 hS fun w hS=>?_;refine eD ?_;exact⟨_,_,_,_,hS.mt [0,1,2] [4,3],hM⟩
     exact fz
    rintro a w ⟨ca,ch,z,A,hS,hM⟩;unfold gG at hM;refine aK (J:=fun a w=>∃ (e4:LN) (e5:Int) (co:(List cD)) (d0:Value) (dl:LV),St W0 (fun k=>k=e) T 132 [(0,pt e 0),(3,d),(5,al b),(8,pt f 0),(27,al (r.length:Int)),(28,al b)] [bJ d g,.box e [h,al e5] 73,ui d0 dl,.box f [.bool n,d0,al z,al A] 115] [an ar g m,aL (aR.int .i64) h e4,an dJ dl co] a w∧kI m b n z A e4 e5 co=some f1) ?_ ?_
    ·skip;refine am hS fun a hS=>?_;obtain⟨k0,hd,hM⟩:=bd hM;refine wl rfl (cj hS lM rfl rfl 1 rfl (bo _ _ (hS.drop 1).dlt (aY.mk ca ch) 4 _ _ (hS.boxRow 1 rfl) (hS.notin 1 rfl) (aC.lent (i:=1) rfl (hS.get 1 rfl)) _ hd) fun _ w hR hk=>?_);obtain⟨oi,he,hrow,gb,av⟩:=hR;obtain rfl:=he.symm;subst av;refine⟨(be k0.2 h),hrow,fun a hS=>?_⟩;replace hS:=hS.fS (aC.back (i:=1) rfl gb);refine am hS fun a hS=>?_;replace hS:=hS.nilRow dJ 119 (by decide);obtain⟨r2,ks,hMo2⟩:=bd hM;refine bx _ (fun s a w=>∃ (q:Int) (W:LN) (X:Int) (t:(List cD)) (C:Value) (B:LV),(q,W,X,t)=s∧St W0 (fun k=>k=e) T 132 [(0,pt e 0),(3,d),(5,al b),(7,al o),(8,pt f 0),(9,al q),(27,al (r.length:Int)),(28,al b)] [bJ d g,.box e [h,al X] 73,ui C B,.box f [.bool n,C,al z,al A] 115] [an ar g m,aL (aR.int .i64) h W,an dJ B t] a w) ks ⟨_,_,_,_,_,_,rfl,hS.mt [1,2,0,3] [2,1,0]⟩ ?_;rintro s a w f2 ⟨q,W,X,t,C,B,rfl,hS⟩ hM hf2;have hM:gJ o n q W X t=some f2:=hM;unfold gJ at hM;refine ay ?_;refine am hS fun a hS=>?_;rcases cd hM with⟨hW,hM⟩|⟨hW,hM⟩
     ·refine am hS fun a hS=>?_;refine aK (J:=fun a w=>∃ (e6:LN) (ea:Int) (ex:(List cD)) (fd:Value) (dn:LV),St W0 (fun k=>k=e) T 132 [(0,pt e 0),(3,d),(5,al b),(7,al o),(8,pt f 0),(9,al q),(27,al (r.length:Int)),(28,al b)] [bJ d g,.box e [h,al ea] 73,ui fd dn,.box f [.bool n,fd,al z,al A] 115] [an ar g m,aL (aR.int .i64) h e6,an dJ dn ex] a w∧nj q e6 ea ex=some f2) ?_ ?_
      ·skip;refine am hS fun a hS=>?_;refine aK (J:=fun a w=>∃ (U:LN) (V:Int) (p:Bool) (D:Nat),St W0 (fun k=>k=e) T 132 [(0,pt e 0),(3,d),(5,al b),(7,al o),(8,pt f 0),(9,al q),(10,pt D 0),(27,al (r.length:Int)),(28,al b)] [bJ d g,.box e [h,al V] 73,ui C B,.box f [.bool n,C,al z,al A] 115,.box D [.bool p,.bool false,al 0,al 0] 119] [an ar g m,aL (aR.int .i64) h U,an dJ B t] a w∧gF o n q t U V p=some f2) ?_ ?_
       ·skip;refine am hS fun a hS=>?_;obtain⟨js,hc,hM⟩:=bd hM;refine wl rfl (cj hS lM rfl rfl 1 rfl (bo _ _ (hS.drop 1).dlt (aY.mk W X) 3 _ _ (hS.boxRow 1 rfl) (hS.notin 1 rfl) (aC.lent (i:=1) rfl (hS.get 1 rfl)) _ hc) fun _ w hR hk=>?_);obtain⟨oj,he,hrow,gi,b6⟩:=hR;obtain rfl:=he.symm;subst b6;refine⟨(be js.2 h),hrow,fun a hS=>?_⟩;replace hS:=hS.fS (aC.back (i:=1) rfl gi);refine am hS fun a hS=>?_;rcases cd hM with⟨hX,hM⟩|⟨hX,hM⟩
        ·refine am hS fun a hS=>?_;refine qy hS (bp (ps:=[(0,.tmp 76)]) hS HH xK rfl (us:=[[.bool true]]) ⟨rfl,trivial⟩ (ws:=[.bool true,.bool false,al 0,al 0]) rfl) fun a hS=>?_;refine ka hS xK fun la m3 a w hk hS=>?_;exact fz
        refine am hS fun a hS=>?_;refine qy hS (bp (ps:=[(0,.tmp 76)]) hS HH xK rfl (us:=[[.bool (o==0)]]) ⟨rfl,trivial⟩ (ws:=[.bool (o==0),.bool false,al 0,al 0]) rfl) fun a hS=>?_;refine ka hS xK fun le m4 a w hk hS=>?_;exact fz
       rintro a w ⟨U,V,p,D,hS,hM⟩;unfold gF at hM;refine am hS fun a hS=>?_;refine aK (J:=fun a w=>∃ (F:Int),St W0 (fun k=>k=e) T 132 [(0,pt e 0),(3,d),(5,al b),(7,al o),(8,pt f 0),(9,al q),(10,pt D 0),(11,al F),(27,al (r.length:Int)),(28,al b)] [bJ d g,.box e [h,al V] 73,ui C B,.box f [.bool n,C,al z,al A] 115,.box D [.bool p,.bool false,al 0,al 0] 119] [an ar g m,aL (aR.int .i64) h U,an dJ B t] a w∧iS n q t U V p F=some f2) ?_ ?_
       ·exact fz
       rintro a w ⟨F,hS,hM⟩;unfold iS at hM;refine am hS fun a hS=>?_;obtain⟨ak,h9,hM⟩:=bd hM;refine wl rfl (cj hS lM rfl rfl 1 rfl (bo _ _ (hS.drop 1).dlt (aY.mk U V) F _ _ (hS.boxRow 1 rfl) (hS.notin 1 rfl) (aC.lent (i:=1) rfl (hS.get 1 rfl)) _ h9) fun _ w hR hk=>?_);obtain⟨ok,he,hrow,gp,b0⟩:=hR;obtain rfl:=he.symm;subst b0;refine⟨(be ak.2 h),hrow,fun a hS=>?_⟩;replace hS:=hS.fS (aC.back (i:=1) rfl gp);refine go hS fun a w hS=>?_;refine aK (J:=fun a w=>∃ (c3:LN) (c4:Int) (E:Int),St W0 (fun k=>k=e) T 132 [(0,pt e 0),(3,d),(5,al b),(7,al o),(8,pt f 0),(9,al q),(10,pt D 0),(11,al F),(27,al (r.length:Int)),(28,al b)] [bJ d g,.box e [h,al c4] 73,ui C B,.box f [.bool n,C,al z,al A] 115,.box D [.bool p,.bool false,al E,al 0] 119] [an ar g m,aL (aR.int .i64) h c3,an dJ B t] a w∧iQ n q t p F c3 c4 E=some f2) ?_ ?_
       ·skip;refine aK (J:=fun a w=>∃ (eq:Bool) (c5:LN) (c9:Int),St W0 (fun k=>k=e) T 132 [(0,pt e 0),(3,d),(5,al b),(7,al o),(8,pt f 0),(9,al q),(10,pt D 0),(11,al F),(27,al (r.length:Int)),(28,al b),(92,.bool eq)] [bJ d g,.box e [h,al c9] 73,ui C B,.box f [.bool n,C,al z,al A] 115,.box D [.bool p,.bool false,al ak.1,al 0] 119] [an ar g m,aL (aR.int .i64) h c5,an dJ B t] a w∧iR n q t p F ak eq c5 c9=some f2) ?_ ?_
        ·skip;refine am hS fun a hS=>?_;rcases cd hM with⟨g0,hM⟩|⟨g0,hM⟩
         ·refine am hS fun a hS=>?_;obtain⟨jb,hb,hM⟩:=bd hM;refine wg hS rfl rfl rfl g0 (cj hS lM rfl rfl 1 rfl (bo _ _ (hS.drop 1).dlt (aY.mk ak.2.L ak.2.At) 2 _ _ (hS.boxRow 1 rfl) (hS.notin 1 rfl) (aC.lent (i:=1) rfl (hS.get 0 rfl)) _ hb) fun _ w hR hk=>?_);obtain⟨op,he,hrow,gs,b5⟩:=hR;obtain rfl:=he.symm;subst b5;refine⟨(be jb.2 h),hrow,fun a hS=>?_⟩;replace hS:=hS.fS (aC.back (i:=1) rfl gs);exact fz
         exact fz
        rintro a w ⟨eq,c5,c9,hS,hM⟩;unfold iR at hM;rcases cd hM with⟨hY,hM⟩|⟨hY,hM⟩
        ·refine am hS fun a hS=>?_;refine qy hS (HN hS rfl rfl) fun a hS=>?_;obtain⟨it,ha,hM⟩:=bd hM;refine wl rfl (cj hS lM rfl rfl 1 rfl (bo _ _ (hS.drop 1).dlt (aY.mk c5 c9) (min F 3) _ _ (hS.boxRow 1 rfl) (hS.notin 1 rfl) (aC.lent (i:=1) rfl (hS.get 1 rfl)) _ ha) fun _ w hR hk=>?_);obtain⟨os,he,hrow,gu,b4⟩:=hR;obtain rfl:=he.symm;subst b4;refine⟨(be it.2 h),hrow,fun a hS=>?_⟩;replace hS:=hS.fS (aC.back (i:=1) rfl gu);exact fz
        exact fz
       rintro a w ⟨c3,c4,E,hS,hM⟩;unfold iQ at hM;refine aK (J:=fun a w=>∃ (eb:LN) (ed:Int) (O:Bool) (P:Int),St W0 (fun k=>k=e) T 132 [(0,pt e 0),(3,d),(5,al b),(7,al o),(8,pt f 0),(9,al q),(10,pt D 0),(27,al (r.length:Int)),(28,al b)] [bJ d g,.box e [h,al ed] 73,ui C B,.box f [.bool n,C,al z,al A] 115,.box D [.bool p,.bool O,al E,al P] 119] [an ar g m,aL (aR.int .i64) h eb,an dJ B t] a w∧iP q t p E eb ed O P=some f2) ?_ ?_
       ·skip;refine aK (J:=fun a w=>∃ (ep:Bool) (c1:LN) (c2:Int),St W0 (fun k=>k=e) T 132 [(0,pt e 0),(3,d),(5,al b),(7,al o),(8,pt f 0),(9,al q),(10,pt D 0),(11,al F),(27,al (r.length:Int)),(28,al b),(114,.bool ep)] [bJ d g,.box e [h,al c2] 73,ui C B,.box f [.bool n,C,al z,al A] 115,.box D [.bool p,.bool false,al E,al 0] 119] [an ar g m,aL (aR.int .i64) h c1,an dJ B t] a w∧gk q t p F E ep c1 c2=some f2) ?_ ?_
        ·skip;refine am hS fun a hS=>?_;rcases cd hM with⟨i0,hM⟩|⟨i0,hM⟩
         ·refine am hS fun a hS=>?_;rcases cd hM with⟨g1,hM⟩|⟨g1,hM⟩
          ·refine am hS fun a hS=>?_;obtain⟨ii,h8,hM⟩:=bd hM;refine wg hS rfl rfl rfl g1 (cj hS lM rfl rfl 1 rfl (bo _ _ (hS.drop 1).dlt (aY.mk c3 c4) 3 _ _ (hS.boxRow 1 rfl) (hS.notin 1 rfl) (aC.lent (i:=1) rfl (hS.get 1 rfl)) _ h8) fun _ w hR hk=>?_);obtain⟨p0,he,hrow,gH,b3⟩:=hR;obtain rfl:=he.symm;subst b3;refine⟨(be ii.2 h),hrow,fun a hS=>?_⟩;replace hS:=hS.fS (aC.back (i:=1) rfl gH);exact fz
          exact fz
         exact fz
        rintro a w ⟨ep,c1,c2,hS,hM⟩;unfold gk at hM;rcases cd hM with⟨i1,hM⟩|⟨i1,hM⟩
        ·refine am hS fun a hS=>?_;obtain⟨ih,h7,hM⟩:=bd hM;refine wl rfl (cj hS lM rfl rfl 1 rfl (bo _ _ (hS.drop 1).dlt (aY.mk c1 c2) F _ _ (hS.boxRow 1 rfl) (hS.notin 1 rfl) (aC.lent (i:=1) rfl (hS.get 1 rfl)) _ h7) fun _ w hR hk=>?_);obtain⟨p1,he,hrow,h0,b2⟩:=hR;obtain rfl:=he.symm;subst b2;refine⟨(be ih.2 h),hrow,fun a hS=>?_⟩;replace hS:=hS.fS (aC.back (i:=1) rfl h0);exact fz
        refine am hS fun a hS=>?_;exact⟨_,_,_,_,hS.mt [0,1,2,3,4] [0,1,2],hM⟩
       rintro a w ⟨eb,ed,O,P,hS,hM⟩;unfold iP at hM;refine am hS fun a hS=>?_;refine wl rfl (bj (ps:=[(0,.tmp 122)]) hS Ez xK (zl:=[.bool false,.bool false,al 0,al 0]) (by kernel_rfl) rfl (us:=[[.bool p,.bool O,al E,al P]]) ⟨rfl,trivial⟩ (ws:=[.bool p,.bool O,al E,al P]) rfl rfl rfl rfl fun lg a w hk hS=>?_);replace hS:=(hS.lit (R:=dJ) (us:=[.bool p,.bool O,al E,al P]) (xs:=[(cD.mk p O E P)]) 0 rfl (by decide) (az.one_ (R:=dJ) (x:=(cD.mk p O E P)) rfl) rfl rfl).freeze (R:=dJ) 0 rfl 0 rfl;obtain⟨i2,hM⟩:=bm hM;refine wl rfl (bB (R:=dJ) (xs:=t) (ys:=[(cD.mk p O E P)]) hS Ez (by decide) (by decide) rfl rfl 2 rfl 4 rfl 0 rfl i2 rfl fun p2 m0 a w hk hS=>?_);exact fz
      rintro a w ⟨e6,ea,ex,fd,dn,hS,hM⟩;unfold nj at hM;exact fz
     refine am hS fun a hS=>?_;cases hM
     have hr:=hf2 _ rfl;subst hr;have hM:kI m b n z A W X t=some f1:=hMo2;exact⟨_,_,_,_,_,hS.mt [0,1,2,3] [0,1,2],hM⟩
    rintro a w ⟨e4,e5,co,d0,dl,hS,hM⟩;unfold kI at hM;refine am hS fun a hS=>?_;obtain⟨hu,fl,hM⟩:=bd hM;refine wl rfl (c7 (R:=ar) hS vk pM rfl rfl 0 rfl 0 rfl fl rfl fun ll ms n1 m1 i3 i4 i5 a hS=>?_);obtain⟨k3,rfl,hm⟩:=i3;replace hS:=(hS.fS hm).freeze (R:=dJ) 2 rfl 3 rfl;refine wl rfl (fT (R:=ar) (k:=0) (cs:=(sX hu k3)) (us:=[.bool n,d0,al z,al A]) (x':=(aI.mk n co z A)) hS rfl rfl rfl pM 0 rfl 2 rfl i4 i5 fl (⟨_,rfl,(hS.get 1 rfl)⟩) rfl rfl (⟨_,rfl,(hS.get 0 rfl)⟩) fun m2 w hk hS=>?_);exact fz
   rintro a w ⟨ew,e2,e3,d6,hS,hM⟩;unfold ni at hM;exact fz
  refine am hS fun a hS=>?_;cases hM
  have hr:=hf1 _ rfl;subst hr;have hM:kH m I K=some y:=hMo1;exact⟨_,_,_,_,hS.mt [0,1] [0,1],hM⟩
 rintro a w ⟨et,ds,e0,c0,hS,hM⟩;unfold kH at hM;refine am hS fun a hS=>?_;cases hM
 refine aG hS rfl (aw hS rfl aF) ?_;exact⟨d,c0,h,rfl,hS.retOwnm ⟨.inr (aH (i:=0) rfl),⟨.inr (aH (i:=1) rfl),trivial⟩⟩ 0 rfl 0 rfl 1 rfl (by decide),hS.boxRow 1 rfl,(aC.up ⟨.inr (aH (i:=0) rfl),⟨.inr (aH (i:=1) rfl),trivial⟩⟩ (hS.get 1 rfl)),rfl⟩
end
end
section
set_option maxRecDepth 100000
set_option maxHeartbeats 4000000
open Go.RowKit
noncomputable section
def eQ (b:ad):Option ad:=gd (bL (([]:List ae).length+b.Reads.length)) <| some ((ad.mk b.Key b.Value (([]:List ae)++b.Reads) b.Changed b.Verified b.Cost b.Dirty))
theorem kZ (T:Nat→Prop) (W0:World) (hT:TW T W0) (b:ad) (h:Value) (g:aC ac T W0 h b.Reads) (y:ad) (hM:eQ b=some y):a7 aO No 55 [.agg (aE b h).toArray] W0 (fun v w'=>∃ (f:Value) (iN:ba),v = .agg (aE y f).toArray∧ge ac T W0 w' [ax f iN] 31 f iN y.Reads):=by
 refine en Tryz.func55 Tryz.ntmps55 hT fun a hS=>?_;replace hS:=hS.fS (aC.dn g);unfold eQ at hM;refine am hS fun a hS=>?_;refine kb hS fun j l a w hk hS=>?_;refine ka hS dD fun k m a w hk hS=>?_;refine am hS fun a hS=>?_;replace hS:=hS.nilRow ac 31 (by decide);obtain⟨d,hM⟩:=bm hM;refine wl rfl (bB (R:=ac) (xs:=([]:List ae)) (ys:=b.Reads) hS gh (by decide) (by decide) rfl rfl 0 rfl 0 rfl 1 rfl d rfl fun e c a w hk hS=>?_);refine go hS fun a w hS=>?_;cases hM
 refine aG hS rfl (rC 1 hS) ?_;exact⟨e,c,rfl,hS.retOwn ⟨.inr (aH (i:=0) rfl),trivial⟩ 0 rfl 0 rfl⟩
def nn (b:LR):Option LR:=some (b)
def kM (e:LR) (c:LR) (b:Int):Option (Fl (LR×Int) (LR)):=cond (decide (b<(e.length:Int))) ((bk e b).bind fun f=>(eQ f).bind fun d=>gd (bL (c.length+([d]).length)) <| some (.go ((c++([d])),IntKind.i64.wrap (b+1)))) (some (.out c))
def o7 (b:LR):Option LR:=(loop (fun s:LR×Int=>kM b s.1 s.2) (([]:List ad),0)).bind fun r=>nn r
theorem zF (T:Nat→Prop) (W0:World) (hT:TW T W0) (g:LR) (q:Value) (C:aC aa T W0 q g) (y:LR) (hM:o7 g=some y):a7 aO No 84 [q] W0 (fun v w'=>∃ (A:Value) (iN:ba),v=A∧ge aa T W0 w' [ah A iN] 33 A iN y):=by
 refine en Tryz.func84 Tryz.ntmps84 hT fun a hS=>?_;replace hS:=hS.fS (aC.dn C);unfold o7 at hM;refine am hS fun a hS=>?_;refine aK (J:=fun a w=>∃ (j:LR) (f:Value) (d:LV),St W0 No T 19 [(3,f)] [ah f d] [an aa d j] a w∧nn j=some y) ?_ ?_
 ·skip;refine am hS fun a hS=>?_;replace hS:=hS.nilRow aa 33 (by decide);obtain⟨P,B,hMo1⟩:=bd hM;refine bx _ (fun s a w=>∃ (c:LR) (e:Int) (k:Value) (h:LV),(c,e)=s∧St W0 No T 19 [(3,k),(6,q),(7,al (g.length:Int)),(8,al e)] [ah k h] [an aa h c,aL aa q g] a w) B ⟨_,_,_,_,rfl,hS.mt [0] [0,1]⟩ ?_;rintro s a w K ⟨c,e,k,h,rfl,hS⟩ hM hf1;have hM:kM g c e=some K:=hM;unfold kM at hM;refine am hS fun a hS=>?_;refine ay ?_;rcases cd hM with⟨t,hM⟩|⟨t,hM⟩
  ·refine am hS fun a hS=>?_;refine ay ?_;refine am hS fun a hS=>?_;obtain⟨r,n,hM⟩:=bd hM;refine wl rfl (bu (R:=aa) hS dW bX rfl rfl 1 rfl n rfl fun D M G u a hS=>?_);obtain⟨N,rfl,p⟩:=u;replace hS:=hS.fS p;refine am hS fun a hS=>?_;refine ka hS dD fun E L a w hk hS=>?_;refine go hS fun a w hS=>?_;obtain⟨b,o,hM⟩:=bd hM;refine kc hS F9 (kZ _ _ hS.dlt r _ (hS.get 0 rfl) _ o) fun _ w hR a hk hA=>?_;obtain⟨l,H,he,m⟩:=hR;obtain rfl:=he.symm;have hS:=pz hA m;refine wl rfl (bj (ps:=[(0,.tmp 14)]) hS pp dD (zl:=[al 0,aZ bW,aZ bW,.slice none 0 0,al 0,al 0,al 0,.bool false]) (by kernel_rfl) rfl (us:=[(aE b l)]) ⟨rfl,trivial⟩ (ws:=(aE b l)) rfl rfl rfl rfl fun F a w hk hS=>?_);replace hS:=hS.freeze (R:=ac) 1 rfl 0 rfl;replace hS:=(hS.lit (R:=aa) (us:=(aE b l)) (xs:=[b]) 0 rfl (by decide) (az.one_ (R:=aa) (x:=b) (⟨_,rfl,(hS.get 0 rfl)⟩)) rfl rfl).freeze (R:=aa) 0 rfl 0 rfl;obtain⟨z,hM⟩:=bm hM;refine wl rfl (bB (R:=aa) (xs:=c) (ys:=[b]) hS pp (by decide) (by decide) rfl rfl 1 rfl 6 rfl 0 rfl z rfl fun O I a w hk hS=>?_);exact fz
  exact fz
 rintro a w ⟨j,f,d,hS,hM⟩;unfold nn at hM;refine am hS fun a hS=>?_;cases hM
 refine aG hS rfl (aw hS rfl aF) ?_;exact⟨f,d,rfl,hS.retOwn ⟨.inr (aH (i:=0) rfl),trivial⟩ 0 rfl 0 rfl⟩
def dR (b:ai):Option ai:=gd (bL (([]:List aT).length+b.Inputs.length)) <| (o7 b.Records).bind fun c=>some ((ai.mk b.Revision (([]:List aT)++b.Inputs) c))
theorem dz (T:Nat→Prop) (W0:World) (hT:TW T W0) (b:ai) (p:Value) (q:Value) (n:aC ab T W0 p b.Inputs) (o:aC aa T W0 q b.Records) (y:ai) (hM:dR b=some y):a7 aO No 52 [.agg (a6 b p q).toArray] W0 (fun v w'=>∃ (d:Value) (uQ:ba) (e:Value) (wi:ba),v = .agg (a6 y d e).toArray∧ge ab T W0 w' [aQ d uQ,ah e wi] 75 d uQ y.Inputs∧ge aa T W0 w' [aQ d uQ,ah e wi] 33 e wi y.Records∧(∀ k,d.ownBlock=some k→e.ownBlock≠some k)):=by
 refine en Tryz.func52 Tryz.ntmps52 hT fun a hS=>?_;replace hS:=(hS.fS (aC.dn n)).fS (aC.dn o);unfold dR at hM;refine am hS fun a hS=>?_;refine kb hS fun r t a w hk hS=>?_;refine ka hS lx fun s u a w hk hS=>?_;refine am hS fun a hS=>?_;replace hS:=hS.nilRow ab 75 (by decide);obtain⟨j,hM⟩:=bm hM;refine wl rfl (bB (R:=ab) (xs:=([]:List aT)) (ys:=b.Inputs) hS zh (by decide) (by decide) rfl rfl 0 rfl 0 rfl 2 rfl j rfl fun l g a w hk hS=>?_);refine go hS fun a w hS=>?_;obtain⟨x,f,hM⟩:=bd hM;refine kc hS Lo (zF _ _ hS.dlt b.Records _ (hS.get 2 rfl) _ f) fun _ w hR a hk hA=>?_;obtain⟨m,h,he,c⟩:=hR;obtain rfl:=he.symm;have hS:=pz hA c;refine go hS fun a w hS=>?_;cases hM
 refine aG hS rfl (rC 2 hS) ?_;exact⟨l,g,m,h,rfl,hS.retOwn ⟨.inr (aH (i:=1) rfl),⟨.inr (aH (i:=0) rfl),trivial⟩⟩ 1 rfl 1 rfl,hS.retOwn ⟨.inr (aH (i:=1) rfl),⟨.inr (aH (i:=0) rfl),trivial⟩⟩ 0 rfl 0 rfl,(hS.apart2 1 rfl 0 rfl (by decide))⟩
def eV (b:Int):Option Int:=some (b)
def eW (c:ByteArray) (d:Int) (b:Int):Option (Fl (Int×Int) (Fl (Int) Int)):=cond (decide (b<(c.size:Int))) ((bk c.toList b).bind fun e=>cond (decide (((e.toNat:Int):Int)<48)) (some (.out (.out (-1)))) ((bk c.toList b).bind fun f=>cond (decide ((57:Int)<(f.toNat:Int))) (some (.out (.out (-1)))) ((bk c.toList b).bind fun g=>some (.go (IntKind.i64.wrap ((IntKind.i64.wrap (10*d))+(IntKind.i64.wrap (IntKind.u8.wrap ((g.toNat:Int)-48)))),IntKind.i64.wrap (b+1)))))) (some (.out (.go d)))
def cG (c:ByteArray) (b:Bool):Option Int:=cond b (some ((-1))) ((loop (fun s:Int×Int=>eW c s.1 s.2) (0,0)).bind fun r=>Fl.el r (fun s=>eV s) (fun y=>some (y)))
def iU (b:ByteArray):Option Int:=cond (b.toList==bW.toList) (cG b true) (cond (decide ((9:Int)<(b.size:Int))) (cG b true) ((bk b.toList 0).bind fun c=>cond (((c.toNat:Int):Int)==48) (cG b (!(b.toList==(ByteArray.mk #[48]).toList))) (cG b false)))
theorem rD (T:Nat→Prop) (W0:World) (hT:TW T W0) (b:ByteArray) (y:Int) (hM:iU b=some y):a7 aO No 101 [aZ b] W0 (fun v w'=>v=al y):=by
 refine en Tryz.func101 Tryz.ntmps101 hT fun a hS=>?_;unfold iU at hM;refine am hS fun a hS=>?_;refine ay ?_;refine aK (J:=fun a w=>∃ (e:Bool),St W0 No T 46 [(0,aZ b),(20,.bool e)] [] [] a w∧cG b e=some y) ?_ ?_
 ·skip;refine am hS fun a hS=>?_;rcases cd hM with⟨m,hM⟩|⟨m,hM⟩
  ·exact fz
  refine am hS fun a hS=>?_;rcases cd hM with⟨g,hM⟩|⟨g,hM⟩
  ·exact fz
  refine am hS fun a hS=>?_;obtain⟨x,l,hM⟩:=bd hM;refine qg hS g (zO hS Tryz.underlying9 rfl rfl l) fun a hS=>?_;exact fz
 rintro a w ⟨e,hS,hM⟩;unfold cG at hM;rcases cd hM with⟨n,hM⟩|⟨n,hM⟩
 ·exact fz
 refine am hS fun a hS=>?_;refine aK (J:=fun a w=>∃ (f:Int),St W0 No T 46 [(3,al f)] [] [] a w∧eV f=some y) ?_ ?_
 ·skip;refine am hS fun a hS=>?_;obtain⟨A,q,hMo1⟩:=bd hM;refine bx _ (fun s a w=>∃ (d:Int) (c:Int),(d,c)=s∧St W0 No T 46 [(0,aZ b),(3,al d),(4,al c)] [] [] a w) q ⟨_,_,rfl,hS.mt [] []⟩ ?_;rintro s a w z ⟨d,c,rfl,hS⟩ hM hf1;have hM:eW b d c=some z:=hM;unfold eW at hM;refine ay ?_;refine am hS fun a hS=>?_;rcases cd hM with⟨o,hM⟩|⟨o,hM⟩
  ·refine am hS fun a hS=>?_;refine ay ?_;refine am hS fun a hS=>?_;refine ay ?_;refine jg ?_;refine am hS fun a hS=>?_;obtain⟨r,i,hM⟩:=bd hM;refine qy hS (zO hS Tryz.underlying9 rfl rfl i) fun a hS=>?_;refine am hS fun a hS=>?_;rcases cd hM with⟨h,hM⟩|⟨h,hM⟩
   ·exact fz
   refine am hS fun a hS=>?_;obtain⟨t,j,hM⟩:=bd hM;refine qg hS h (zO hS Tryz.underlying9 rfl rfl j) fun a hS=>?_;refine am hS fun a hS=>?_;rcases cd hM with⟨p,hM⟩|⟨p,hM⟩
   ·exact fz
   refine am hS fun a hS=>?_;obtain⟨u,k,hM⟩:=bd hM;refine qy hS (zO hS Tryz.underlying9 rfl rfl k) fun a hS=>?_;refine am hS fun a hS=>?_;exact⟨_,(bO hM).symm,_,_,rfl,hS.mt [] []⟩
  exact fz
 rintro a w ⟨f,hS,hM⟩;unfold eV at hM;exact fz
def fH (c:Int) (b:Bool):Option Int:=cond b (some (c)) (some ((-1)))
def fW (c:ae):Option Int:=(iU c.Text).bind fun b=>cond (decide ((30:Int)≤c.Kind)) (cond (decide (c.Kind≤32)) (fH b (decide (b≤99))) (fH b false)) (fH b false)
theorem l3 (T:Nat→Prop) (W0:World) (hT:TW T W0) (c:ae) (y:Int) (hM:fW c=some y):a7 aO No 67 [.agg (aV c).toArray] W0 (fun v w'=>v=al y):=by
 refine en Tryz.func67 Tryz.ntmps67 hT fun a hS=>?_;unfold fW at hM;refine am hS fun a hS=>?_;refine kb hS fun f g a w hk hS=>?_;refine am hS fun a hS=>?_;refine ay ?_;refine am hS fun a hS=>?_;obtain⟨d,e,hM⟩:=bd hM;refine kc hS Hj (rD _ _ hS.dlt c.Text _ e) fun _ w hR a hk hA=>?_;obtain rfl:=hR;have hS:=ce hA;refine am hS fun a hS=>?_;refine aK (J:=fun a w=>∃ (b:Bool),St W0 No T 20 [(3,al d),(18,.bool b)] [] [] a w∧fH d b=some y) ?_ ?_
 ·exact fz
 rintro a w ⟨b,hS,hM⟩;unfold fH at hM;exact fz
def d8 (b:Bool):Option Bool:=some (b)
def jy (b:ae) (c:Bool):Option Bool:=cond c ((fW b).bind fun d=>some (decide ((0:Int)≤d))) (cond (decide ((1:Int)≤b.Kind)) (cond (decide (b.Kind≤22)) (cond (decide (((b.Text.size:Int):Int)≤1073741824)) (cond (b.Text.toList==bW.toList) (d8 true) (cond (b.Kind != 1) (d8 (b.Kind != 21)) (d8 false))) (d8 false)) (d8 false)) (d8 false))
def dH (b:ae):Option Bool:=cond (decide ((30:Int)≤b.Kind)) (jy b (decide (b.Kind≤32))) (jy b false)
theorem kL (T:Nat→Prop) (W0:World) (hT:TW T W0) (b:ae) (y:Bool) (hM:dH b=some y):a7 aO No 36 [.agg (aV b).toArray] W0 (fun v w'=>v = .bool y):=by
 refine en Tryz.func36 Tryz.ntmps36 hT fun a hS=>?_;unfold dH at hM;refine am hS fun a hS=>?_;refine kb hS fun e h a w hk hS=>?_;refine am hS fun a hS=>?_;refine ay ?_;refine aK (J:=fun a w=>∃ (d:Bool),St W0 No T 43 [(1,pt e 0),(10,.bool d)] [.box e (aV b) 31] [] a w∧jy b d=some y) ?_ ?_
 ·exact fz
 rintro a w ⟨d,hS,hM⟩;unfold jy at hM;rcases cd hM with⟨g,hM⟩|⟨g,hM⟩
 ·refine am hS fun a hS=>?_;obtain⟨i,f,hM⟩:=bd hM;refine kc hS Gb (l3 _ _ hS.dlt b _ f) fun _ w hR a hk hA=>?_;obtain rfl:=hR;have hS:=ce hA;exact fz
 refine am hS fun a hS=>?_;refine aK (J:=fun a w=>∃ (c:Bool),St W0 No T 43 [(2,.bool c)] [] [] a w∧d8 c=some y) ?_ ?_
 ·exact fz
 rintro a w ⟨c,hS,hM⟩;unfold d8 at hM;exact fz
def gN (b:Bool):Option Bool:=some (b)
def cm (b:ae):Option Bool:=cond (b.Kind==1) (gN true) (cond (b.Kind==2) (gN true) (gN (b.Kind==30)))
theorem da (T:Nat→Prop) (W0:World) (hT:TW T W0) (c:ae) (y:Bool) (hM:cm c=some y):a7 aO No 37 [.agg (aV c).toArray] W0 (fun v w'=>v = .bool y):=by
 refine en Tryz.func37 Tryz.ntmps37 hT fun a hS=>?_;unfold cm at hM;refine am hS fun a hS=>?_;refine kb hS fun d e a w hk hS=>?_;refine am hS fun a hS=>?_;refine aK (J:=fun a w=>∃ (b:Bool),St W0 No T 16 [(2,.bool b)] [] [] a w∧gN b=some y) ?_ ?_
 ·exact fz
 rintro a w ⟨b,hS,hM⟩;unfold gN at hM;exact fz
def iT (b:ae) (c:ae):Option Int:=cond (decide (b.Kind<c.Kind)) (some ((-1))) (cond (decide (c.Kind<b.Kind)) (some (1)) ((qb b.Text c.Text).bind fun d=>some (d)))
theorem lB (T:Nat→Prop) (W0:World) (hT:TW T W0) (hLv:dc T W0) (b:ae) (c:ae) (y:Int) (hM:iT b c=some y):a7 aO No 35 [.agg (aV b).toArray,.agg (aV c).toArray] W0 (fun v w'=>v=al y):=by
 refine en Tryz.func35 Tryz.ntmps35 hT fun a hS=>?_;replace hS:=hS.fact br (dc.dn hLv);unfold iT at hM;refine am hS fun a hS=>?_;refine kb hS fun g i a w hk hS=>?_;refine kb hS fun h j a w hk hS=>?_;refine am hS fun a hS=>?_;refine ay ?_;refine am hS fun a hS=>?_;rcases cd hM with⟨e,hM⟩|⟨e,hM⟩
 ·exact fz
 refine am hS fun a hS=>?_;rcases cd hM with⟨f,hM⟩|⟨f,hM⟩
 ·exact fz
 refine am hS fun a hS=>?_;obtain⟨k,d,hM⟩:=bd hM;refine kc hS JQ (vC _ _ hS.dlt (hS.get 0 rfl) b.Text c.Text _ d) fun _ w hR a hk hA=>?_;obtain rfl:=hR;have hS:=ce hA;exact fz
def eB (b:Bool):Option Bool:=some (b)
def ov (b:Int):Option Bool:=cond (b==7) (eB true) (cond (b==14) (eB true) (cond (b==17) (eB true) (eB (b==18))))
theorem xc (T:Nat→Prop) (W0:World) (hT:TW T W0) (c:Int) (y:Bool) (hM:ov c=some y):a7 aO No 113 [al c] W0 (fun v w'=>v = .bool y):=by
 refine en Tryz.func113 Tryz.ntmps113 hT fun a hS=>?_;unfold ov at hM;refine am hS fun a hS=>?_;refine aK (J:=fun a w=>∃ (b:Bool),St W0 No T 17 [(2,.bool b)] [] [] a w∧eB b=some y) ?_ ?_
 ·exact fz
 rintro a w ⟨b,hS,hM⟩;unfold eB at hM;exact fz
def eC (b:Bool):Option Bool:=some (b)
def b7 (b:ae):Option Bool:=cond (b.Kind==32) (eC true) (cond (decide ((1:Int)≤b.Kind)) (cond (decide (b.Kind≤22)) ((ov b.Kind).bind fun c=>eC c) (eC false)) (eC false))
theorem cu (T:Nat→Prop) (W0:World) (hT:TW T W0) (d:ae) (y:Bool) (hM:b7 d=some y):a7 aO No 95 [.agg (aV d).toArray] W0 (fun v w'=>v = .bool y):=by
 refine en Tryz.func95 Tryz.ntmps95 hT fun a hS=>?_;unfold b7 at hM;refine am hS fun a hS=>?_;refine kb hS fun h i a w hk hS=>?_;refine am hS fun a hS=>?_;refine aK (J:=fun a w=>∃ (b:Bool),St W0 No T 21 [(2,.bool b)] [] [] a w∧eC b=some y) ?_ ?_
 ·skip;refine am hS fun a hS=>?_;rcases cd hM with⟨f,hM⟩|⟨f,hM⟩
  ·exact fz
  refine am hS fun a hS=>?_;rcases cd hM with⟨g,hM⟩|⟨g,hM⟩
  ·refine am hS fun a hS=>?_;rcases cd hM with⟨c,hM⟩|⟨c,hM⟩
   ·refine am hS fun a hS=>?_;obtain⟨j,e,hM⟩:=bd hM;refine wg hS rfl rfl rfl c (bz hS Js rfl rfl (xc _ _ hS.dlt d.Kind _ e) fun _ w hR a hk hA=>?_);obtain rfl:=hR;have hS:=ce hA;exact fz
   exact fz
  exact fz
 rintro a w ⟨b,hS,hM⟩;unfold eC at hM;exact fz
def cb (b:Bool):Option Bool:=some (b)
def jC (b:ad):Option Bool:=(dH b.Key).bind fun c=>cond c ((cm b.Key).bind fun d=>cond (!(d)) (cond (decide (((b.Value.size:Int):Int)≤1073741824)) (cond (decide ((b.Reads.length:Int)≤4000)) (cond (decide ((0:Int)≤b.Changed)) (cond (decide (b.Changed≤b.Verified)) (cond (decide (b.Verified≤1073741824)) (cond (decide ((1:Int)≤b.Cost)) (cond (decide (b.Cost≤1073741824)) (cond (!(b.Dirty)) (cb true) ((b7 b.Key).bind fun e=>cb e)) (cb false)) (cb false)) (cb false)) (cb false)) (cb false)) (cb false)) (cb false)) (cb false)) (cb false)
def jD (c:ad) (b:Int):Option (Fl (Int) (Fl (Unit) Bool)):=cond (decide (b<(c.Reads.length:Int))) ((bk c.Reads b).bind fun d=>(dH d).bind fun e=>cond (!(e)) (some (.out (.out false))) (some (.go (IntKind.i64.wrap (b+1))))) (some (.out (.go ())))
def nM (b:ad):Option Bool:=(loop (fun s:Int=>jD b s) 0).bind fun r=>Fl.el r (fun s=>jC b) (fun y=>some (y))
theorem x8 (T:Nat→Prop) (W0:World) (hT:TW T W0) (b:ad) (f:Value) (D:aC ac T W0 f b.Reads) (y:Bool) (hM:nM b=some y):a7 aO No 68 [.agg (aE b f).toArray] W0 (fun v w'=>v = .bool y):=by
 refine en Tryz.func68 Tryz.ntmps68 hT fun a hS=>?_;replace hS:=hS.fS (aC.dn D);unfold nM at hM;refine am hS fun a hS=>?_;refine kb hS fun c I a w hk hS=>?_;refine am hS fun a hS=>?_;refine aK (J:=fun a w=>St W0 No T 74 [(1,pt c 0)] [.box c (aE b f) 33] [aL ac f b.Reads] a w∧jC b=some y) ?_ ?_
 ·skip;refine am hS fun a hS=>?_;obtain⟨Q,C,hMo1⟩:=bd hM;refine bx _ (fun s a w=>∃ (d:Int),d=s∧St W0 No T 74 [(1,pt c 0),(6,f),(7,al (b.Reads.length:Int)),(8,al d)] [.box c (aE b f) 33] [aL ac f b.Reads] a w) C ⟨_,rfl,hS.mt [0] [0]⟩ ?_;rintro s a w H ⟨d,rfl,hS⟩ hM hf1;have hM:jD b d=some H:=hM;unfold jD at hM;refine am hS fun a hS=>?_;refine ay ?_;rcases cd hM with⟨o,hM⟩|⟨o,hM⟩
  ·refine am hS fun a hS=>?_;refine ay ?_;refine am hS fun a hS=>?_;obtain⟨n,i,hM⟩:=bd hM;refine wl rfl (bu (R:=ac) hS mz eJ rfl rfl 0 rfl i rfl fun E L G p a hS=>?_);obtain rfl:=p;refine am hS fun a hS=>?_;refine ka hS fE fun F K a w hk hS=>?_;refine go hS fun a w hS=>?_;obtain⟨P,m,hM⟩:=bd hM;refine kc hS Er (kL _ _ hS.dlt n _ m) fun _ w hR a hk hA=>?_;obtain rfl:=hR;have hS:=ce hA;exact fz
  exact fz
 rintro a w ⟨hS,hM⟩;unfold jC at hM;refine aK (J:=fun a w=>∃ (e:Bool),St W0 No T 74 [(2,.bool e)] [] [] a w∧cb e=some y) ?_ ?_
 ·skip;refine am hS fun a hS=>?_;obtain⟨M,j,hM⟩:=bd hM;refine kc hS Er (kL _ _ hS.dlt b.Key _ j) fun _ w hR a hk hA=>?_;obtain rfl:=hR;have hS:=ce hA;refine am hS fun a hS=>?_;rcases cd hM with⟨g,hM⟩|⟨g,hM⟩
  ·refine am hS fun a hS=>?_;obtain⟨N,k,hM⟩:=bd hM;refine wg hS rfl rfl rfl g (bz hS wG rfl rfl (da _ _ hS.dlt b.Key _ k) fun _ w hR a hk hA=>?_);obtain rfl:=hR;have hS:=ce hA;refine am hS fun a hS=>?_;rcases cd hM with⟨q,hM⟩|⟨q,hM⟩
   ·refine am hS fun a hS=>?_;rcases cd hM with⟨r,hM⟩|⟨r,hM⟩
    ·refine am hS fun a hS=>?_;rcases cd hM with⟨t,hM⟩|⟨t,hM⟩
     ·refine am hS fun a hS=>?_;rcases cd hM with⟨u,hM⟩|⟨u,hM⟩
      ·refine am hS fun a hS=>?_;rcases cd hM with⟨x,hM⟩|⟨x,hM⟩
       ·refine am hS fun a hS=>?_;rcases cd hM with⟨z,hM⟩|⟨z,hM⟩
        ·refine am hS fun a hS=>?_;rcases cd hM with⟨A,hM⟩|⟨A,hM⟩
         ·refine am hS fun a hS=>?_;rcases cd hM with⟨B,hM⟩|⟨B,hM⟩
          ·refine am hS fun a hS=>?_;rcases cd hM with⟨h,hM⟩|⟨h,hM⟩
           ·exact fz
           refine am hS fun a hS=>?_;obtain⟨O,l,hM⟩:=bd hM;refine wg hS rfl rfl rfl h (bz hS uP rfl rfl (cu _ _ hS.dlt b.Key _ l) fun _ w hR a hk hA=>?_);obtain rfl:=hR;have hS:=ce hA;exact fz
          exact fz
         exact fz
        exact fz
       exact fz
      exact fz
     exact fz
    exact fz
   exact fz
  exact fz
 rintro a w ⟨e,hS,hM⟩;unfold cb at hM;exact fz
def lq (b:LR):Option Bool:=some (decide ((b.length:Int)≤4000))
def df (b:Int) (c:Bool):Option (Fl (Int) (Fl (Unit) Bool)):=cond c (some (.out (.out false))) (some (.go (IntKind.i64.wrap (b+1))))
def ff (d:LR) (b:Int):Option (Fl (Int) (Fl (Unit) Bool)):=cond (decide (b<(d.length:Int))) ((bk d b).bind fun c=>(nM c).bind fun f=>cond (!(f)) (df b true) (cond (decide ((0:Int)<b)) ((bk d (IntKind.i64.wrap (b-1))).bind fun e=>(iT e.Key c.Key).bind fun g=>df b (decide ((0:Int)≤g))) (df b false))) (some (.out (.go ())))
def iC (b:LR):Option Bool:=(loop (fun s:Int=>ff b s) 0).bind fun r=>Fl.el r (fun s=>lq b) (fun y=>some (y))
theorem uq (T:Nat→Prop) (W0:World) (hT:TW T W0) (hLv:dc T W0) (b:LR) (d:Value) (C:aC aa T W0 d b) (y:Bool) (hM:iC b=some y):a7 aO No 38 [d] W0 (fun v w'=>v = .bool y):=by
 refine en Tryz.func38 Tryz.ntmps38 hT fun a hS=>?_;replace hS:=(hS.fact br (dc.dn hLv)).fS (aC.dn C);unfold iC at hM;refine am hS fun a hS=>?_;refine aK (J:=fun a w=>St W0 No T 35 [(0,d)] [] [aL aa d b,br] a w∧lq b=some y) ?_ ?_
 ·skip;refine am hS fun a hS=>?_;obtain⟨O,B,hMo1⟩:=bd hM;refine bx _ (fun s a w=>∃ (c:Int),c=s∧St W0 No T 35 [(0,d),(5,d),(6,al (b.length:Int)),(7,al c)] [] [aL aa d b,br] a w) B ⟨_,rfl,hS.mt [] [0,1]⟩ ?_;rintro s a w A ⟨c,rfl,hS⟩ hM hf1;have hM:ff b c=some A:=hM;unfold ff at hM;refine am hS fun a hS=>?_;refine ay ?_;rcases cd hM with⟨q,hM⟩|⟨q,hM⟩
  ·refine am hS fun a hS=>?_;refine ay ?_;refine am hS fun a hS=>?_;obtain⟨g,h,hM⟩:=bd hM;refine wl rfl (bu (R:=aa) hS dW bX rfl rfl 0 rfl h rfl fun D I F r a hS=>?_);obtain⟨M,rfl,m⟩:=r;replace hS:=hS.fS m;refine am hS fun a hS=>?_;refine ka hS dD fun E H a w hk hS=>?_;refine go hS fun a w hS=>?_;refine aK (J:=fun a w=>∃ (e:Bool),St W0 No T 35 [(0,d),(5,d),(6,al (b.length:Int)),(7,al c),(30,.bool e)] [] [aL aa d b,br] a w∧df c e=some A) ?_ ?_
   ·skip;refine dr [] hS fun w hQ hS=>?_;refine gE [0] hS fun a hS=>?_;obtain⟨K,k,hM⟩:=bd hM;refine ec 1 hS Lc (x8 _ _ hS.dlt g _ (hS.get 0 rfl) _ k) fun _ w hR a hk hA=>?_;obtain rfl:=hR;have hS:=ce hA;refine gE [2,3] hS fun a hS=>?_;rcases cd hM with⟨t,hM⟩|⟨t,hM⟩
    ·refine gE [4,5,6,7,8,9,10,11,12,13,14,15,16,17,18] hS fun a hS=>?_;refine eD ?_;exact⟨_,hS.mt [] [2,3],hM⟩
    refine gE [4,5,6] hS fun a hS=>?_;rcases cd hM with⟨f,hM⟩|⟨f,hM⟩
    ·refine gE [7,8,9] hS fun a hS=>?_;obtain⟨p,j,hM⟩:=bd hM;obtain⟨o,z,G,u,x,hS⟩:=m6 (R:=aa) hS dW bX 2 rfl j;obtain⟨N,rfl,n⟩:=u;replace hS:=hS.fS n;refine wO 10 (v:=pt o z) rfl (by kernel_rfl) (by kernel_rfl) (by kernel_rfl) rfl hQ hS (x rfl rfl) rfl rfl rfl f rfl rfl fun a hS=>?_;refine gE [11,12,13,14] hS fun a hS=>?_;obtain⟨L,l,hM⟩:=bd hM;refine cS (i:=15) rfl (by kernel_rfl) hS rfl rfl rfl f (bz hS Dk rfl rfl (lB _ _ hS.dlt (hS.get 5 rfl) p.Key g.Key _ l) fun _ w hR a hk hA=>⟨fA (hk),?_⟩);obtain rfl:=hR;have hS:=ce hA;refine gE [16,17,18] hS fun a hS=>?_;refine eD ?_;exact⟨_,hS.mt [] [4,5],hM⟩
    refine gE [7,8,9,10,11,12,13,14,15,16,17,18] hS fun a hS=>?_;refine eD ?_;exact⟨_,hS.mt [] [2,3],hM⟩
   rintro a w ⟨e,hS,hM⟩;unfold df at hM;exact fz
  exact fz
 rintro a w ⟨hS,hM⟩;unfold lq at hM;exact fz
def gR (b:Bool):Option Bool:=some (b)
def jG (b:ai):Option Bool:=cond (decide ((0:Int)≤b.Revision)) (cond (decide (b.Revision≤1073741824)) (cond (decide ((b.Inputs.length:Int)≤64)) ((iC b.Records).bind fun c=>gR c) (gR false)) (gR false)) (gR false)
def jI (c:ai) (b:Int):Option (Fl (Int) (Fl (Unit) Bool)):=cond (decide (b<(c.Records.length:Int))) ((bk c.Records b).bind fun d=>cond (decide (c.Revision<d.Verified)) (some (.out (.out false))) (some (.go (IntKind.i64.wrap (b+1))))) (some (.out (.go ())))
def jH (b:ai):Option Bool:=(loop (fun s:Int=>jI b s) 0).bind fun r=>Fl.el r (fun s=>jG b) (fun y=>some (y))
def cx (b:Int) (c:Bool):Option (Fl (Int) (Fl (Unit) Bool)):=cond c (some (.out (.out false))) (some (.go (IntKind.i64.wrap (b+1))))
def jJ (d:ai) (b:Int):Option (Fl (Int) (Fl (Unit) Bool)):=cond (decide (b<(d.Inputs.length:Int))) ((bk d.Inputs b).bind fun c=>(dH c.Key).bind fun f=>cond (!(f)) (cx b true) ((cm c.Key).bind fun g=>cond (!(g)) (cx b true) (cond (decide ((0:Int)<b)) ((bk d.Inputs (IntKind.i64.wrap (b-1))).bind fun e=>(iT e.Key c.Key).bind fun h=>cond (decide ((0:Int)≤h)) (cx b true) (cond (decide ((1073741824:Int)<(c.Value.size:Int))) (cx b true) (cond (decide (c.Changed<0)) (cx b true) (cx b (decide (d.Revision<c.Changed)))))) (cond (decide ((1073741824:Int)<(c.Value.size:Int))) (cx b true) (cond (decide (c.Changed<0)) (cx b true) (cx b (decide (d.Revision<c.Changed)))))))) (some (.out (.go ())))
def ic (b:ai):Option Bool:=(loop (fun s:Int=>jJ b s) 0).bind fun r=>Fl.el r (fun s=>jH b) (fun y=>some (y))
theorem nr (T:Nat→Prop) (W0:World) (hT:TW T W0) (hLv:dc T W0) (b:ai) (d:Value) (f:Value) (W:aC ab T W0 d b.Inputs) (X:aC aa T W0 f b.Records) (y:Bool) (hM:ic b=some y):a7 aO No 13 [.agg (a6 b d f).toArray] W0 (fun v w'=>v = .bool y):=by
 refine en Tryz.func13 Tryz.ntmps13 hT fun a hS=>?_;replace hS:=((hS.fact br (dc.dn hLv)).fS (aC.dn W)).fS (aC.dn X);unfold ic at hM;refine am hS fun a hS=>?_;refine kb hS fun c a9 a w hk hS=>?_;refine am hS fun a hS=>?_;refine aK (J:=fun a w=>St W0 No T 93 [(1,pt c 0)] [.box c (a6 b d f) 25] [aL ab d b.Inputs,aL aa f b.Records,br] a w∧jH b=some y) ?_ ?_
 ·skip;refine am hS fun a hS=>?_;obtain⟨r1,o,hMo1⟩:=bd hM;refine bx _ (fun s a w=>∃ (e:Int),e=s∧St W0 No T 93 [(1,pt c 0),(8,d),(9,al (b.Inputs.length:Int)),(10,al e)] [.box c (a6 b d f) 25] [aL ab d b.Inputs,aL aa f b.Records,br] a w) o ⟨_,rfl,hS.mt [0] [1,0,2]⟩ ?_;rintro s a w p ⟨e,rfl,hS⟩ hM hf1;have hM:jJ b e=some p:=hM;unfold jJ at hM;refine am hS fun a hS=>?_;refine ay ?_;rcases cd hM with⟨E,hM⟩|⟨E,hM⟩
  ·refine am hS fun a hS=>?_;refine ay ?_;refine am hS fun a hS=>?_;obtain⟨h,r,hM⟩:=bd hM;refine wl rfl (bu (R:=ab) hS Ba Bg rfl rfl 0 rfl r rfl fun Y ak a2 F a hS=>?_);obtain rfl:=F;refine am hS fun a hS=>?_;refine ka hS xL fun Z af a w hk hS=>?_;refine go hS fun a w hS=>?_;refine aK (J:=fun a w=>∃ (k:Bool),St W0 No T 93 [(1,pt c 0),(8,d),(9,al (b.Inputs.length:Int)),(10,al e),(59,.bool k)] [.box c (a6 b d f) 25] [aL ab d b.Inputs,aL aa f b.Records,br] a w∧cx e k=some p) ?_ ?_
   ·skip;refine dr [] hS fun w hQ hS=>?_;refine gE [0,1] hS fun a hS=>?_;obtain⟨b2,x,hM⟩:=bd hM;refine ec 2 hS Er (kL _ _ hS.dlt h.Key _ x) fun _ w hR a hk hA=>?_;obtain rfl:=hR;have hS:=ce hA;refine gE [3,4] hS fun a hS=>?_;rcases cd hM with⟨m,hM⟩|⟨m,hM⟩
    ·refine gE [5,6,7,8,9,10,11,12,13,14,15,16,17,18,19,20,21,22,23,24,25,26,27,28,29,30,31,32,33,34,35,36,37,38,39,40,41,42,43,44] hS fun a hS=>?_;refine eD ?_;exact⟨_,hS.mt [1] [1,2,3],hM⟩
    refine gE [5,6] hS fun a hS=>?_;obtain⟨b3,z,hM⟩:=bd hM;refine cS (i:=7) rfl (by kernel_rfl) hS rfl rfl rfl m (bz hS wG rfl rfl (da _ _ hS.dlt h.Key _ z) fun _ w hR a hk hA=>⟨fA (hk),?_⟩);obtain rfl:=hR;have hS:=ce hA;refine gE [8,9,10] hS fun a hS=>?_;rcases cd hM with⟨G,hM⟩|⟨G,hM⟩
    ·refine gE [11,12,13,14,15,16,17,18,19,20,21,22,23,24,25,26,27,28,29,30,31,32,33,34,35,36,37,38,39,40,41,42,43,44] hS fun a hS=>?_;refine eD ?_;exact⟨_,hS.mt [1] [1,2,3],hM⟩
    refine gE [11,12,13] hS fun a hS=>?_;rcases cd hM with⟨l,hM⟩|⟨l,hM⟩
    ·refine gE [14,15,16,17] hS fun a hS=>?_;obtain⟨D,t,hM⟩:=bd hM;obtain⟨C,V,a3,H,I,hS⟩:=m6 (R:=ab) hS Ba Bg 1 rfl t;obtain rfl:=H;refine wO 18 (v:=pt C V) rfl (by kernel_rfl) (by kernel_rfl) (by kernel_rfl) rfl hQ hS (I rfl rfl) rfl rfl rfl l rfl rfl fun a hS=>?_;refine gE [19,20,21,22] hS fun a hS=>?_;obtain⟨b4,A,hM⟩:=bd hM;refine cS (i:=23) rfl (by kernel_rfl) hS rfl rfl rfl l (bz hS Dk rfl rfl (lB _ _ hS.dlt (hS.get 4 rfl) D.Key h.Key _ A) fun _ w hR a hk hA=>⟨fA (hk),?_⟩);obtain rfl:=hR;have hS:=ce hA;refine gE [24,25,26,27] hS fun a hS=>?_;rcases cd hM with⟨K,hM⟩|⟨K,hM⟩
     ·refine gE [28,29,30,31,32,33,34,35,36,37,38,39,40,41,42,43,44] hS fun a hS=>?_;refine eD ?_;exact⟨_,hS.mt [1] [2,3,4],hM⟩
     refine gE [28,29,30,31,32,33] hS fun a hS=>?_;rcases cd hM with⟨L,hM⟩|⟨L,hM⟩
     ·refine gE [34,35,36,37,38,39,40,41,42,43,44] hS fun a hS=>?_;refine eD ?_;exact⟨_,hS.mt [1] [2,3,4],hM⟩
     refine gE [34,35,36,37,38] hS fun a hS=>?_;rcases cd hM with⟨M,hM⟩|⟨M,hM⟩
     ·refine gE [39,40,41,42,43,44] hS fun a hS=>?_;refine eD ?_;exact⟨_,hS.mt [1] [2,3,4],hM⟩
     refine gE [39,40,41,42,43,44] hS fun a hS=>?_;refine eD ?_;exact⟨_,hS.mt [1] [2,3,4],hM⟩
    refine gE [14,15,16,17,18,19,20,21,22,23,24,25,26,27,28,29,30,31,32,33] hS fun a hS=>?_;rcases cd hM with⟨N,hM⟩|⟨N,hM⟩
    ·refine gE [34,35,36,37,38,39,40,41,42,43,44] hS fun a hS=>?_;refine eD ?_;exact⟨_,hS.mt [1] [1,2,3],hM⟩
    refine gE [34,35,36,37,38] hS fun a hS=>?_;rcases cd hM with⟨O,hM⟩|⟨O,hM⟩
    ·refine gE [39,40,41,42,43,44] hS fun a hS=>?_;refine eD ?_;exact⟨_,hS.mt [1] [1,2,3],hM⟩
    refine gE [39,40,41,42,43,44] hS fun a hS=>?_;refine eD ?_;exact⟨_,hS.mt [1] [1,2,3],hM⟩
   rintro a w ⟨k,hS,hM⟩;unfold cx at hM;exact fz
  exact fz
 rintro a w ⟨hS,hM⟩;unfold jH at hM;refine aK (J:=fun a w=>St W0 No T 93 [(1,pt c 0)] [.box c (a6 b d f) 25] [aL ab d b.Inputs,aL aa f b.Records,br] a w∧jG b=some y) ?_ ?_
 ·skip;refine am hS fun a hS=>?_;obtain⟨r1,o,hMo1⟩:=bd hM;refine bx _ (fun s a w=>∃ (g:Int),g=s∧St W0 No T 93 [(1,pt c 0),(62,f),(63,al (b.Records.length:Int)),(64,al g)] [.box c (a6 b d f) 25] [aL aa f b.Records,aL ab d b.Inputs,br] a w) o ⟨_,rfl,hS.mt [0] [1,0,2]⟩ ?_;rintro s a w p ⟨g,rfl,hS⟩ hM hf1;have hM:jI b g=some p:=hM;unfold jI at hM;refine am hS fun a hS=>?_;refine ay ?_;rcases cd hM with⟨P,hM⟩|⟨P,hM⟩
  ·refine am hS fun a hS=>?_;refine ay ?_;refine am hS fun a hS=>?_;obtain⟨a5,q,hM⟩:=bd hM;refine wl rfl (bu (R:=aa) hS dW bX rfl rfl 0 rfl q rfl fun a0 av a4 Q a hS=>?_);obtain⟨b5,rfl,B⟩:=Q;replace hS:=hS.fS B;refine am hS fun a hS=>?_;refine ka hS dD fun a1 ag a w hk hS=>?_;exact fz
  exact fz
 rintro a w ⟨hS,hM⟩;unfold jG at hM;refine aK (J:=fun a w=>∃ (j:Bool),St W0 No T 93 [(2,.bool j)] [] [br] a w∧gR j=some y) ?_ ?_
 ·skip;refine am hS fun a hS=>?_;rcases cd hM with⟨S,hM⟩|⟨S,hM⟩
  ·refine am hS fun a hS=>?_;rcases cd hM with⟨U,hM⟩|⟨U,hM⟩
   ·refine am hS fun a hS=>?_;rcases cd hM with⟨n,hM⟩|⟨n,hM⟩
    ·refine am hS fun a hS=>?_;obtain⟨b1,u,hM⟩:=bd hM;refine wg hS rfl rfl rfl n (bz hS KW rfl rfl (uq _ _ hS.dlt (hS.get 2 rfl) b.Records _ (hS.get 1 rfl) _ u) fun _ w hR a hk hA=>?_);obtain rfl:=hR;have hS:=ce hA;exact fz
    exact fz
   exact fz
  exact fz
 rintro a w ⟨j,hS,hM⟩;unfold gR at hM;exact fz
def pU (b:ae):Option aT:=some ((aT.mk b bW 0))
def eR (d:ai) (e:ae) (c:Int):Option (Fl (Int) (Fl (Unit) aT)):=cond (decide (c<(d.Inputs.length:Int))) ((bk d.Inputs c).bind fun b=>cond (b.Key.Kind==e.Kind&&b.Key.Text.toList==e.Text.toList) (some (.out (.out b))) (some (.go (IntKind.i64.wrap (c+1))))) (some (.out (.go ())))
def mS (c:ai) (b:ae):Option aT:=(loop (fun s:Int=>eR c b s) 0).bind fun r=>Fl.el r (fun s=>pU b) (fun y=>some (y))
theorem ur (T:Nat→Prop) (W0:World) (hT:TW T W0) (c:ai) (b:ae) (i:Value) (p:Value) (n:aC ab T W0 i c.Inputs) (o:aC aa T W0 p c.Records) (y:aT) (hM:mS c b=some y):a7 aO No 89 [.agg (a6 c i p).toArray,.agg (aV b).toArray] W0 (fun v w'=>v = .agg (tp y).toArray):=by
 refine en Tryz.func89 Tryz.ntmps89 hT fun a hS=>?_;replace hS:=(hS.fS (aC.dn n)).fS (aC.dn o);unfold mS at hM;refine am hS fun a hS=>?_;refine kb hS fun q z a w hk hS=>?_;refine kb hS fun d A a w hk hS=>?_;refine ka hS xL fun e B a w hk hS=>?_;refine am hS fun a hS=>?_;refine aK (J:=fun a w=>St W0 No T 22 [(3,pt d 0),(4,pt e 0)] [.box d (aV b) 31,.box e [al 0,aZ bW,aZ bW,al 0] 75] [] a w∧pU b=some y) ?_ ?_
 ·skip;refine am hS fun a hS=>?_;obtain⟨E,m,hMo1⟩:=bd hM;refine bx _ (fun s a w=>∃ (f:Int),f=s∧St W0 No T 22 [(3,pt d 0),(4,pt e 0),(8,i),(9,al (c.Inputs.length:Int)),(10,al f)] [.box d (aV b) 31,.box e [al 0,aZ bW,aZ bW,al 0] 75] [aL ab i c.Inputs] a w) m ⟨_,rfl,hS.mt [1,0] [1]⟩ ?_;rintro s a w x ⟨f,rfl,hS⟩ hM hf1;have hM:eR c b f=some x:=hM;unfold eR at hM;refine am hS fun a hS=>?_;refine ay ?_;rcases cd hM with⟨j,hM⟩|⟨j,hM⟩
  ·refine am hS fun a hS=>?_;refine ay ?_;refine am hS fun a hS=>?_;obtain⟨g,h,hM⟩:=bd hM;refine wl rfl (bu (R:=ab) hS Ba Bg rfl rfl 0 rfl h rfl fun r D u k a hS=>?_);obtain rfl:=k;refine am hS fun a hS=>?_;refine ka hS xL fun t C a w hk hS=>?_;refine go hS fun a w hS=>?_;refine wl rfl (ky (v:=.bool (g.Key.Kind==b.Kind&&g.Key.Text.toList==b.Text.toList)) hS (zj hS rfl rfl) rfl rfl fun a hS=>?_);refine am hS fun a hS=>?_;rcases cd hM with⟨l,hM⟩|⟨l,hM⟩
   ·refine go hS fun a w hS=>?_;cases hM
    have hr:=hf1 _ rfl;subst hr;replace hMo1:=kv hMo1;have hM:=hMo1;cases hM
    refine aG hS rfl (rC 2 hS) ?_;exact rfl
   exact fz
  exact fz
 rintro a w ⟨hS,hM⟩;unfold pU at hM;refine am hS fun a hS=>?_;refine qy hS (bp (ps:=[(0,.tmp 20)]) hS IU xL rfl (us:=[(aV b)]) ⟨rfl,trivial⟩ (ws:=[al b.Kind,aZ b.Text,aZ bW,al 0]) rfl) fun a hS=>?_;refine go hS fun a w hS=>?_;cases hM
 refine aG hS rfl (rC 1 hS) ?_;exact rfl
def mR (c:ai) (d:ae):Option ByteArray:=(mS c d).bind fun b=>some (b.Value)
theorem r5 (T:Nat→Prop) (W0:World) (hT:TW T W0) (b:ai) (c:ae) (g:Value) (h:Value) (e:aC ab T W0 g b.Inputs) (f:aC aa T W0 h b.Records) (y:ByteArray) (hM:mR b c=some y):a7 aO No 58 [.agg (a6 b g h).toArray,.agg (aV c).toArray] W0 (fun v w'=>v=aZ y):=by
 refine en Tryz.func58 Tryz.ntmps58 hT fun a hS=>?_;replace hS:=(hS.fS (aC.dn e)).fS (aC.dn f);unfold mR at hM;refine am hS fun a hS=>?_;refine kb hS fun i k a w hk hS=>?_;refine kb hS fun j l a w hk hS=>?_;refine am hS fun a hS=>?_;obtain⟨m,d,hM⟩:=bd hM;refine kc hS JV (ur _ _ hS.dlt b c _ _ (hS.get 1 rfl) (hS.get 0 rfl) _ d) fun _ w hR a hk hA=>?_;obtain rfl:=hR;have hS:=ce hA;refine qy hS (Bn hS rfl Tryz.underlying75 rfl rfl HK rfl rfl (fun _=>rfl)) fun a hS=>?_;exact fz
def jF (b:ai) (c:ai) (e:Bool) (d:LI):Option (ai×Int):=cond (!(e)) (some ((b,0))) (cond (decide ((64:Int)<(d.length:Int))) (some ((b,45))) (cond (decide ((1073741824:Int)<(IntKind.i64.wrap (c.Revision+1)))) (some ((b,3))) (some (((ai.mk (IntKind.i64.wrap (c.Revision+1)) d c.Records),0)))))
def gQ (c:Int) (b:Bool) (d:LI):Option (Fl (Bool×Int×LI) (Bool×LI)):=some (.go (b,IntKind.i64.wrap (c+1),d))
def eg (b:Int) (c:LI):Option (Fl (Bool×Int×LI) (Bool×LI)):=gQ b true c
def eh (e:ai) (d:Int) (b:dk) (c:LI) (f:Bool):Option (Fl (Bool×Int×LI) (Bool×LI)):=cond (!(f)) (gd (bL (c.length+([(aT.mk b.Key b.Value (IntKind.i64.wrap (e.Revision+1)))]).length)) <| eg d (c++([(aT.mk b.Key b.Value (IntKind.i64.wrap (e.Revision+1)))]))) (eg d c)
def ej (b:Int) (c:LI) (d:Bool):Option (Fl (LI×Bool×Int) (LI×Bool)):=some (.go (c,d,IntKind.i64.wrap (b+1)))
def ek (d:Int) (c:aT) (f:Int) (b:LI) (e:Bool):Option (Fl (LI×Bool×Int) (LI×Bool)):=cond (f != 0) (gd (bL (b.length+([c]).length)) <| ej d (b++([c])) e) (ej d b e)
def em (f:ai) (b:dk) (c:LI) (i:Bool) (e:Int) (d:aT) (g:Int) (h:Bool):Option (Fl (LI×Bool×Int) (LI×Bool)):=cond h (gd (bL (c.length+([(aT.mk b.Key b.Value (IntKind.i64.wrap (f.Revision+1)))]).length)) <| ek e d g (c++([(aT.mk b.Key b.Value (IntKind.i64.wrap (f.Revision+1)))])) true) (ek e d g c i)
def fg (i:ai) (h:LI) (d:dk) (f:LI) (c:Bool) (b:Int):Option (Fl (LI×Bool×Int) (LI×Bool)):=cond (decide (b<(h.length:Int))) ((bk h b).bind fun e=>(iT e.Key d.Key).bind fun g=>cond (decide ((0:Int)≤g)) (em i d f c b e g (!(c))) (em i d f c b e g false)) (some (.out (f,c)))
def l9 (h:ai) (f:ai) (e:Bool) (c:Int) (d:LI) (b:dk) (g:Bool):Option (Fl (Bool×Int×LI) (Bool×LI)):=cond (!(g)) (gQ c e d) ((mR h b.Key).bind fun i=>cond (i.toList==b.Value.toList) (gQ c e d) ((loop (fun s:LI×Bool×Int=>fg f d b s.1 s.2.1 s.2.2) (([]:List aT),false,0)).bind fun r=>eh f c b r.1 r.2))
def k5 (c:dk) (e:LC) (f:Bool) (b:Int):Option (Fl (Bool×Int) (Bool)):=cond (decide (b<(e.length:Int))) ((bk e b).bind fun d=>cond f (some (.go (!(d.Key.Kind==c.Key.Kind&&d.Key.Text.toList==c.Key.Text.toList),IntKind.i64.wrap (b+1)))) (some (.go (false,IntKind.i64.wrap (b+1))))) (some (.out f))
def k6 (c:LC) (h:ai) (i:ai) (d:Bool) (b:Int) (f:LI):Option (Fl (Bool×Int×LI) (Bool×LI)):=cond (decide (b<(c.length:Int))) ((bk c b).bind fun e=>(pm c (IntKind.i64.wrap (b+1)) c.length).bind fun g=>(loop (fun s:Bool×Int=>k5 e g s.1 s.2) (true,0)).bind fun r=>l9 h i d b f e r) (some (.out (d,f)))
def iD (d:LC) (b:ai):Option (ai×Int):=(dR b).bind fun c=>(loop (fun s:Bool×Int×LI=>k6 d b c s.1 s.2.1 s.2.2) (false,0,c.Inputs)).bind fun r=>jF b c r.1 r.2
def iF (c:LC) (e:ai) (b:Int):Option (Fl (Int) (Fl (Unit) (ai×Int))):=cond (decide (b<(c.length:Int))) ((bk c b).bind fun d=>cond (decide ((1073741824:Int)<(d.Value.size:Int))) (some (.out (.out (e,3)))) (some (.go (IntKind.i64.wrap (b+1))))) (some (.out (.go ())))
def iE (c:LC) (b:ai):Option (ai×Int):=(loop (fun s:Int=>iF c b s) 0).bind fun r=>Fl.el r (fun s=>iD c b) (fun y=>some (y))
def iG (e:LC) (d:ai) (b:Int):Option (Fl (Int) (Fl (Unit) (ai×Int))):=cond (decide (b<(e.length:Int))) ((bk e b).bind fun c=>(dH c.Key).bind fun f=>cond (!(f)) (some (.out (.out (d,40)))) ((cm c.Key).bind fun g=>cond (!(g)) (some (.out (.out (d,40)))) (some (.go (IntKind.i64.wrap (b+1)))))) (some (.out (.go ())))
def jE (e:ai) (c:LC):Option (ai×Int):=(dR e).bind fun b=>(ic b).bind fun d=>cond (!(d)) (some ((b,42))) (cond (decide ((32:Int)<(c.length:Int))) (some ((b,3))) ((loop (fun s:Int=>iG c b s) 0).bind fun r=>Fl.el r (fun s=>iE c b) (fun y=>some (y))))
theorem pT (T:Nat→Prop) (W0:World) (hT:TW T W0) (hLv:dc T W0) (X:ai) (l:LC) (v1:Value) (v2:Value) (o:Value) (g2:aC ab T W0 v1 X.Inputs) (g3:aC aa T W0 v2 X.Records) (g4:aC bc T W0 o l) (y:ai×Int) (hM:jE X l=some y):a7 aO No 26 [.agg (a6 X v1 v2).toArray,o] W0 (fun v w'=>∃ (v4:Value) (vW:ba) (v6:Value) (vA:ba),v = .tuple #[.agg (a6 y.1 v4 v6).toArray,al y.2]∧ge ab T W0 w' [aQ v4 vW,ah v6 vA] 75 v4 vW y.1.Inputs∧ge aa T W0 w' [aQ v4 vW,ah v6 vA] 33 v6 vA y.1.Records∧(∀ k,v4.ownBlock=some k→v6.ownBlock≠some k)):=by
 refine en Tryz.func26 Tryz.ntmps26 hT fun a hS=>?_;replace hS:=(((hS.fact br (dc.dn hLv)).fS (aC.dn g2)).fS (aC.dn g3)).fS (aC.dn g4);unfold jE at hM;refine am hS fun a hS=>?_;refine kb hS fun m hf a w hk hS=>?_;refine ka hS lx fun n hg a w hk hS=>?_;refine am hS fun a hS=>?_;obtain⟨b,d3,hM⟩:=bd hM;refine kc hS wH (dz _ _ hS.dlt X _ _ (hS.get 2 rfl) (hS.get 1 rfl) _ d3) fun _ w hR a hk hA=>?_;obtain⟨d,g,e,j,he,c3,c4,c2⟩:=hR;obtain rfl:=he.symm;have hS:=xN hA c3 c4 c2;refine go hS fun a w hS=>?_;refine ay ?_;refine am hS fun a hS=>?_;have hL:=hS;replace hL:=hL.freeze (R:=ab) 0 rfl 1 rfl;replace hL:=hL.freeze (R:=aa) 0 rfl 1 rfl;obtain⟨hz,e2,hM⟩:=bd hM;refine kc hS F5 (nr _ _ hL.dlt (hL.get 7 rfl) b _ _ (hL.get 1 rfl) (hL.get 0 rfl) _ e2) fun _ w hR a hk hA=>?_;obtain rfl:=hR;have hS:=ce hA;refine am hS fun a hS=>?_;rcases cd hM with⟨e3,hM⟩|⟨e3,hM⟩
 ·refine go hS fun a w hS=>?_;cases hM
  refine aG hS Tryz.results26 (bh hS rfl 2 rfl eZ rfl (fun h=>by cases h) (aw hS rfl aF)) ?_;exact⟨d,g,e,j,rfl,hS.retOwn ⟨.inr (aH (i:=0) rfl),⟨.inr (aH (i:=1) rfl),trivial⟩⟩ 0 rfl 1 rfl,hS.retOwn ⟨.inr (aH (i:=0) rfl),⟨.inr (aH (i:=1) rfl),trivial⟩⟩ 1 rfl 0 rfl,(hS.apart2 0 rfl 1 rfl (by decide))⟩
 refine am hS fun a hS=>?_;rcases cd hM with⟨e4,hM⟩|⟨e4,hM⟩
 ·refine go hS fun a w hS=>?_;cases hM
  refine aG hS Tryz.results26 (bh hS rfl 2 rfl eZ rfl (fun h=>by cases h) (aw hS rfl aF)) ?_;exact⟨d,g,e,j,rfl,hS.retOwn ⟨.inr (aH (i:=0) rfl),⟨.inr (aH (i:=1) rfl),trivial⟩⟩ 0 rfl 1 rfl,hS.retOwn ⟨.inr (aH (i:=0) rfl),⟨.inr (aH (i:=1) rfl),trivial⟩⟩ 1 rfl 0 rfl,(hS.apart2 0 rfl 1 rfl (by decide))⟩
 refine am hS fun a hS=>?_;refine aK (J:=fun a w=>St W0 No T 172 [(1,o),(2,pt m 0),(4,pt n 0)] [aQ d g,ah e j,.box m (a6 b d e) 25,.box n [al 0,.slice none 0 0,.slice none 0 0] 25] [aL bc o l,an ab g b.Inputs,an aa j b.Records,br] a w∧iE l b=some y) ?_ ?_
 ·skip;refine am hS fun a hS=>?_;obtain⟨r1,Y,hMo1⟩:=bd hM;refine bx _ (fun s a w=>∃ (P:Int),P=s∧St W0 No T 172 [(1,o),(2,pt m 0),(4,pt n 0),(34,o),(35,al (l.length:Int)),(36,al P)] [aQ d g,ah e j,.box m (a6 b d e) 25,.box n [al 0,.slice none 0 0,.slice none 0 0] 25] [aL bc o l,an ab g b.Inputs,an aa j b.Records,br] a w) Y ⟨_,rfl,hS.mt [0,1,3,2] [2,1,0,5]⟩ ?_;rintro s a w K ⟨P,rfl,hS⟩ hM hf1;have hM:iG l b P=some K:=hM;unfold iG at hM;refine am hS fun a hS=>?_;refine ay ?_;rcases cd hM with⟨e5,hM⟩|⟨e5,hM⟩
  ·refine am hS fun a hS=>?_;refine ay ?_;refine am hS fun a hS=>?_;obtain⟨bs,d1,hM⟩:=bd hM;refine wl rfl (bu (R:=bc) hS DR DW rfl rfl 0 rfl d1 rfl fun g8 ho h4 e6 a hS=>?_);obtain rfl:=e6;refine am hS fun a hS=>?_;refine ka hS Cg fun gb hh a w hk hS=>?_;refine go hS fun a w hS=>?_;refine jg ?_;refine am hS fun a hS=>?_;obtain⟨hx,ds,hM⟩:=bd hM;refine kc hS Er (kL _ _ hS.dlt bs.Key _ ds) fun _ w hR a hk hA=>?_;obtain rfl:=hR;have hS:=ce hA;refine am hS fun a hS=>?_;rcases cd hM with⟨bt,hM⟩|⟨bt,hM⟩
   ·refine go hS fun a w hS=>?_;cases hM
    have hr:=hf1 _ rfl;subst hr;replace hMo1:=kv hMo1;have hM:=hMo1;cases hM
    refine aG hS Tryz.results26 (bh hS rfl 4 rfl eZ rfl (fun h=>by cases h) (aw hS rfl aF)) ?_;exact⟨d,g,e,j,rfl,hS.retOwn ⟨.inr (aH (i:=1) rfl),⟨.inr (aH (i:=2) rfl),trivial⟩⟩ 1 rfl 2 rfl,hS.retOwn ⟨.inr (aH (i:=1) rfl),⟨.inr (aH (i:=2) rfl),trivial⟩⟩ 2 rfl 3 rfl,(hS.apart2 1 rfl 2 rfl (by decide))⟩
   refine am hS fun a hS=>?_;obtain⟨hy,e0,hM⟩:=bd hM;refine wg hS rfl rfl rfl bt (bz hS wG rfl rfl (da _ _ hS.dlt bs.Key _ e0) fun _ w hR a hk hA=>?_);obtain rfl:=hR;have hS:=ce hA;refine am hS fun a hS=>?_;rcases cd hM with⟨ea,hM⟩|⟨ea,hM⟩
   ·refine go hS fun a w hS=>?_;cases hM
    have hr:=hf1 _ rfl;subst hr;replace hMo1:=kv hMo1;have hM:=hMo1;cases hM
    refine aG hS Tryz.results26 (bh hS rfl 4 rfl eZ rfl (fun h=>by cases h) (aw hS rfl aF)) ?_;exact⟨d,g,e,j,rfl,hS.retOwn ⟨.inr (aH (i:=1) rfl),⟨.inr (aH (i:=2) rfl),trivial⟩⟩ 1 rfl 2 rfl,hS.retOwn ⟨.inr (aH (i:=1) rfl),⟨.inr (aH (i:=2) rfl),trivial⟩⟩ 2 rfl 3 rfl,(hS.apart2 1 rfl 2 rfl (by decide))⟩
   exact fz
  exact fz
 rintro a w ⟨hS,hM⟩;unfold iE at hM;refine aK (J:=fun a w=>St W0 No T 172 [(1,o),(2,pt m 0),(4,pt n 0)] [aQ d g,ah e j,.box m (a6 b d e) 25,.box n [al 0,.slice none 0 0,.slice none 0 0] 25] [aL bc o l,an ab g b.Inputs,an aa j b.Records,br] a w∧iD l b=some y) ?_ ?_
 ·skip;refine am hS fun a hS=>?_;obtain⟨r1,Y,hMo1⟩:=bd hM;refine bx _ (fun s a w=>∃ (O:Int),O=s∧St W0 No T 172 [(1,o),(2,pt m 0),(4,pt n 0),(52,o),(53,al (l.length:Int)),(54,al O)] [aQ d g,ah e j,.box m (a6 b d e) 25,.box n [al 0,.slice none 0 0,.slice none 0 0] 25] [aL bc o l,an ab g b.Inputs,an aa j b.Records,br] a w) Y ⟨_,rfl,hS.mt [0,1,2,3] [0,1,2,3]⟩ ?_;rintro s a w K ⟨O,rfl,hS⟩ hM hf1;have hM:iF l b O=some K:=hM;unfold iF at hM;refine am hS fun a hS=>?_;refine ay ?_;rcases cd hM with⟨eb,hM⟩|⟨eb,hM⟩
  ·refine am hS fun a hS=>?_;refine ay ?_;refine am hS fun a hS=>?_;obtain⟨hd,d0,hM⟩:=bd hM;refine wl rfl (bu (R:=bc) hS DR DW rfl rfl 0 rfl d0 rfl fun gi hp h5 ed a hS=>?_);obtain rfl:=ed;refine am hS fun a hS=>?_;refine ka hS Cg fun gp hi a w hk hS=>?_;refine go hS fun a w hS=>?_;rcases cd hM with⟨ei,hM⟩|⟨ei,hM⟩
   ·refine go hS fun a w hS=>?_;cases hM
    have hr:=hf1 _ rfl;subst hr;replace hMo1:=kv hMo1;have hM:=hMo1;cases hM
    refine aG hS Tryz.results26 (bh hS rfl 4 rfl eZ rfl (fun h=>by cases h) (aw hS rfl aF)) ?_;exact⟨d,g,e,j,rfl,hS.retOwn ⟨.inr (aH (i:=1) rfl),⟨.inr (aH (i:=2) rfl),trivial⟩⟩ 1 rfl 2 rfl,hS.retOwn ⟨.inr (aH (i:=1) rfl),⟨.inr (aH (i:=2) rfl),trivial⟩⟩ 2 rfl 3 rfl,(hS.apart2 1 rfl 2 rfl (by decide))⟩
   exact fz
  exact fz
 rintro a w ⟨hS,hM⟩;unfold iD at hM;refine am hS fun a hS=>?_;have hZ:=hS;replace hS:=(hS.freeze (R:=ab) 0 rfl 1 rfl).freeze (R:=aa) 0 rfl 3 rfl;have hY:St W0 No T 172 [] ([aQ d g,ah e j]++[.box m (a6 b d e) 25,.box n [al 0,.slice none 0 0,.slice none 0 0] 25]) [aL bc o l,an ab g b.Inputs,an aa j b.Records,br] _ _:=hZ.meet [0,1,2,3] (by decide) trivial ⟨rfl,rfl,rfl,rfl,trivial⟩ ⟨⟨0,rfl⟩,⟨1,rfl⟩,⟨2,rfl⟩,⟨3,rfl⟩,trivial⟩;replace hS:=hS.snap hY;obtain⟨f,d4,hM⟩:=bd hM;refine kc hS wH (dz _ _ hS.dlt b _ _ (hS.get 2 rfl) (hS.get 1 rfl) _ d4) fun _ w hR a hk hA=>?_;obtain⟨hB,h6,q,p,he,c5,c9,c2⟩:=hR;obtain rfl:=he.symm;have hS:=xN hA c5 c9 c2;refine ka hS lx fun t hj a w hk hS=>?_;refine go hS fun a w hS=>?_;refine aK (J:=fun a w=>∃ (Z:Bool) (b0:LI) (W:Value) (M:LV),St W0 No T 172 [(2,pt m 0),(4,pt n 0),(10,pt t 0),(11,.bool Z)] [.box m (a6 b d e) 25,.box n [al 0,.slice none 0 0,.slice none 0 0] 25,aQ W M,ah q p,.box t [al (IntKind.i64.wrap (f.Revision+1)),W,q] 25] [aL ab d b.Inputs,aL aa e b.Records,an ab M b0,an aa p f.Records,br,nB W0 No [aQ d g,ah e j] [aL bc o l,an ab g b.Inputs,an aa j b.Records,br]] a w∧jF b f Z b0=some y) ?_ ?_
 ·skip;refine am hS fun a hS=>?_;obtain⟨r1,Y,hMo1⟩:=bd hM;refine bx _ (fun s a w=>∃ (E:Bool) (A:Int) (z:LI) (r:Value) (u:LV),(E,A,z)=s∧St W0 No T 172 [(1,o),(2,pt m 0),(4,pt n 0),(10,pt t 0),(11,.bool E),(70,o),(71,al (l.length:Int)),(72,al A)] [.box m (a6 b d e) 25,.box n [al 0,.slice none 0 0,.slice none 0 0] 25,aQ r u,ah q p,.box t [al (IntKind.i64.wrap (f.Revision+1)),r,q] 25] [aL bc o l,aL ab d b.Inputs,aL aa e b.Records,an ab u z,an aa p f.Records,br,nB W0 No [aQ d g,ah e j] [aL bc o l,an ab g b.Inputs,an aa j b.Records,br]] a w) Y ⟨_,_,_,_,_,rfl,hS.mt [3,4,1,2,0] [5,4,3,1,0,8,2]⟩ ?_;rintro s a w K ⟨E,A,z,r,u,rfl,hS⟩ hM hf1;have hM:k6 l b f E A z=some K:=hM;unfold k6 at hM;refine am hS fun a hS=>?_;refine ay ?_;rcases cd hM with⟨el,hM⟩|⟨el,hM⟩
  ·refine am hS fun a hS=>?_;refine aK (J:=fun a w=>∃ (a0:Bool) (b1:LI) (b5:Value) (a1:LV),St W0 No T 172 [(1,o),(2,pt m 0),(4,pt n 0),(10,pt t 0),(11,.bool a0),(70,o),(71,al (l.length:Int)),(72,al A)] [.box m (a6 b d e) 25,.box n [al 0,.slice none 0 0,.slice none 0 0] 25,aQ b5 a1,ah q p,.box t [al (IntKind.i64.wrap (f.Revision+1)),b5,q] 25] [aL bc o l,aL ab d b.Inputs,aL aa e b.Records,an ab a1 b1,an aa p f.Records,br,nB W0 No [aQ d g,ah e j] [aL bc o l,an ab g b.Inputs,an aa j b.Records,br]] a w∧gQ A a0 b1=some K) ?_ ?_
   ·skip;refine am hS fun a hS=>?_;obtain⟨c,co,hM⟩:=bd hM;refine wl rfl (bu (R:=bc) hS DR DW rfl rfl 0 rfl co rfl fun gs hq h7 ep a hS=>?_);obtain rfl:=ep;refine am hS fun a hS=>?_;refine ka hS Cg fun B hl a w hk hS=>?_;refine go hS fun a w hS=>?_;refine aK (J:=fun a w=>∃ (ak:Bool),St W0 No T 172 [(1,o),(2,pt m 0),(4,pt n 0),(10,pt t 0),(11,.bool E),(13,pt B 0),(14,.bool ak),(70,o),(71,al (l.length:Int)),(72,al A)] [.box m (a6 b d e) 25,.box n [al 0,.slice none 0 0,.slice none 0 0] 25,aQ r u,ah q p,.box t [al (IntKind.i64.wrap (f.Revision+1)),r,q] 25,.box B (lP c) 89] [aL bc o l,aL ab d b.Inputs,aL aa e b.Records,an ab u z,an aa p f.Records,br,nB W0 No [aQ d g,ah e j] [aL bc o l,an ab g b.Inputs,an aa j b.Records,br]] a w∧l9 b f E A z c ak=some K) ?_ ?_
    ·skip;refine am hS fun a hS=>?_;obtain⟨av,d2,hM⟩:=bd hM;refine wl rfl (J4 (R:=bc) (k2:=.i64) hS DR DW rfl (.inl ⟨_,rfl,rfl⟩) (.inr ⟨rfl,rfl⟩) 1 rfl d2 rfl fun ch a hS=>?_);refine am hS fun a hS=>?_;obtain⟨r2,ca,hMo2⟩:=bd hM;refine bx _ (fun s a w=>∃ (U:Bool) (N:Int),(U,N)=s∧St W0 No T 172 [(1,o),(2,pt m 0),(4,pt n 0),(10,pt t 0),(11,.bool E),(13,pt B 0),(14,.bool U),(70,o),(71,al (l.length:Int)),(72,al A),(80,ch),(81,al (av.length:Int)),(82,al N)] [.box m (a6 b d e) 25,.box n [al 0,.slice none 0 0,.slice none 0 0] 25,aQ r u,ah q p,.box t [al (IntKind.i64.wrap (f.Revision+1)),r,q] 25,.box B (lP c) 89] [aL bc o l,aL bc ch av,aL ab d b.Inputs,aL aa e b.Records,an ab u z,an aa p f.Records,br,nB W0 No [aQ d g,ah e j] [aL bc o l,an ab g b.Inputs,an aa j b.Records,br]] a w) ca ⟨_,_,rfl,hS.mt [1,2,3,4,5,0] [2,0,3,4,5,6,7,8]⟩ ?_;rintro s a w f2 ⟨U,N,rfl,hS⟩ hM hf2;have hM:k5 c av U N=some f2:=hM;unfold k5 at hM;refine am hS fun a hS=>?_;refine ay ?_;rcases cd hM with⟨eq,hM⟩|⟨eq,hM⟩
     ·refine am hS fun a hS=>?_;refine ay ?_;refine am hS fun a hS=>?_;obtain⟨bl,cv,hM⟩:=bd hM;refine wl rfl (bu (R:=bc) hS DR DW rfl rfl 1 rfl cv rfl fun gu hs h8 er a hS=>?_);obtain rfl:=er;refine am hS fun a hS=>?_;refine ka hS Cg fun gH hm a w hk hS=>?_;refine go hS fun a w hS=>?_;rcases cd hM with⟨c0,hM⟩|⟨c0,hM⟩
      ·refine am hS fun a hS=>?_;refine wg hS rfl rfl rfl c0 (ky (v:=.bool (!(bl.Key.Kind==c.Key.Kind&&bl.Key.Text.toList==c.Key.Text.toList))) hS (yo hS rfl rfl) rfl rfl fun a hS=>?_);exact fz
      exact fz
     exact fz
    rintro a w ⟨ak,hS,hM⟩;unfold l9 at hM;refine ay ?_;refine ay ?_;refine dr [] hS fun w hQ hS=>?_;refine gE [0,1,2] hS fun a hS=>?_;rcases cd hM with⟨c1,hM⟩|⟨c1,hM⟩
    ·refine gE [3,4,5,6,7,8,9,10] hS fun a hS=>?_;refine eD ?_;exact fz
    refine gE [3,4,5,7,8] hS fun a hS=>?_;obtain⟨hw,dl,hM⟩:=bd hM;refine cS (i:=6) rfl (by kernel_rfl) hS rfl rfl rfl c1 (bz hS H5 rfl rfl (r5 _ _ hS.dlt b c.Key _ _ (hS.get 1 rfl) (hS.get 2 rfl) _ dl) fun _ w hR a hk hA=>⟨fA (hk),?_⟩);obtain rfl:=hR;have hS:=ce hA;refine gE [9,10] hS fun a hS=>?_;refine eD ?_;refine am hS fun a hS=>?_;rcases cd hM with⟨et,hM⟩|⟨et,hM⟩
    ·exact fz
    refine am hS fun a hS=>?_;refine aK (J:=fun a w=>∃ (Q:LI) (b2:Bool) (b6:Value) (a2:LV),St W0 No T 172 [(1,o),(2,pt m 0),(4,pt n 0),(10,pt t 0),(11,.bool true),(13,pt B 0),(17,b6),(18,.bool b2),(70,o),(71,al (l.length:Int)),(72,al A)] [aQ b6 a2,.box m (a6 b d e) 25,.box n [al 0,.slice none 0 0,.slice none 0 0] 25,aQ r u,ah q p,.box t [al (IntKind.i64.wrap (f.Revision+1)),r,q] 25,.box B (lP c) 89] [aL bc o l,an ab a2 Q,aL ab d b.Inputs,aL aa e b.Records,an ab u z,an aa p f.Records,br,nB W0 No [aQ d g,ah e j] [aL bc o l,an ab g b.Inputs,an aa j b.Records,br]] a w∧eh f A c Q b2=some K) ?_ ?_
    ·skip;refine am hS fun a hS=>?_;replace hS:=hS.nilRow ab 75 (by decide);obtain⟨r2,ca,hMo2⟩:=bd hM;refine bx _ (fun s a w=>∃ (F:LI) (G:Bool) (D:Int) (I:Value) (H:LV),(F,G,D)=s∧St W0 No T 172 [(1,o),(2,pt m 0),(4,pt n 0),(10,pt t 0),(11,.bool true),(13,pt B 0),(17,I),(18,.bool G),(70,o),(71,al (l.length:Int)),(72,al A),(107,r),(108,al (z.length:Int)),(109,al D)] [aQ I H,aQ r u,.box m (a6 b d e) 25,.box n [al 0,.slice none 0 0,.slice none 0 0] 25,ah q p,.box t [al (IntKind.i64.wrap (f.Revision+1)),r,q] 25,.box B (lP c) 89] [aL bc o l,an ab H F,an ab u z,aL ab d b.Inputs,aL aa e b.Records,an aa p f.Records,br,nB W0 No [aQ d g,ah e j] [aL bc o l,an ab g b.Inputs,an aa j b.Records,br]] a w) ca ⟨_,_,_,_,_,rfl,hS.mt [0,3,1,2,4,5,6] [1,0,4,2,3,5,6,7]⟩ ?_;rintro s a w f2 ⟨F,G,D,I,H,rfl,hS⟩ hM hf2;have hM:fg f z c F G D=some f2:=hM;unfold fg at hM;refine am hS fun a hS=>?_;refine ay ?_;rcases cd hM with⟨ew,hM⟩|⟨ew,hM⟩
     ·refine am hS fun a hS=>?_;refine aK (J:=fun a w=>∃ (ag:LI) (b3:Bool) (b8:Value) (a3:LV),St W0 No T 172 [(1,o),(2,pt m 0),(4,pt n 0),(10,pt t 0),(11,.bool true),(13,pt B 0),(17,b8),(18,.bool b3),(70,o),(71,al (l.length:Int)),(72,al A),(107,r),(108,al (z.length:Int)),(109,al D)] [aQ b8 a3,aQ r u,.box m (a6 b d e) 25,.box n [al 0,.slice none 0 0,.slice none 0 0] 25,ah q p,.box t [al (IntKind.i64.wrap (f.Revision+1)),r,q] 25,.box B (lP c) 89] [aL bc o l,an ab a3 ag,an ab u z,aL ab d b.Inputs,aL aa e b.Records,an aa p f.Records,br,nB W0 No [aQ d g,ah e j] [aL bc o l,an ab g b.Inputs,an aa j b.Records,br]] a w∧ej D ag b3=some f2) ?_ ?_
      ·skip;refine am hS fun a hS=>?_;obtain⟨C,cs,hM⟩:=bd hM;refine wl rfl (c7 (R:=ab) hS Ba Bg rfl rfl 1 rfl 2 rfl cs rfl fun h0 ht hu h9 ex f3 f4 a hS=>?_);obtain rfl:=ex;refine qy hS (bq (k:=0) hS Bg 1 rfl f3 f4 rfl id (us:=(tp C)) rfl rfl (fun h=>by cases h)) fun a hS=>?_;refine ka hS xL fun L hn a w hk hS=>?_;refine go hS fun a w hS=>?_;obtain⟨V,d6,hM⟩:=bd hM;refine kc hS Dk (lB _ _ hS.dlt (hS.get 6 rfl) C.Key c.Key _ d6) fun _ w hR a hk hA=>?_;obtain rfl:=hR;have hS:=ce hA;refine am hS fun a hS=>?_;refine aK (J:=fun a w=>∃ (S:LI) (b4:Bool) (b9:Value) (a4:LV),St W0 No T 172 [(1,o),(2,pt m 0),(4,pt n 0),(10,pt t 0),(11,.bool true),(13,pt B 0),(17,b9),(18,.bool b4),(20,pt L 0),(21,al V),(70,o),(71,al (l.length:Int)),(72,al A),(107,r),(108,al (z.length:Int)),(109,al D)] [aQ b9 a4,aQ r u,.box m (a6 b d e) 25,.box n [al 0,.slice none 0 0,.slice none 0 0] 25,ah q p,.box t [al (IntKind.i64.wrap (f.Revision+1)),r,q] 25,.box B (lP c) 89,.box L (tp C) 75] [aL bc o l,an ab a4 S,an ab u z,aL ab d b.Inputs,aL aa e b.Records,an aa p f.Records,br,nB W0 No [aQ d g,ah e j] [aL bc o l,an ab g b.Inputs,an aa j b.Records,br]] a w∧ek D C V S b4=some f2) ?_ ?_
       ·skip;refine aK (J:=fun a w=>∃ (a9:Bool),St W0 No T 172 [(1,o),(2,pt m 0),(4,pt n 0),(10,pt t 0),(11,.bool true),(13,pt B 0),(17,I),(18,.bool G),(20,pt L 0),(21,al V),(70,o),(71,al (l.length:Int)),(72,al A),(107,r),(108,al (z.length:Int)),(109,al D),(123,.bool a9)] [aQ I H,aQ r u,.box m (a6 b d e) 25,.box n [al 0,.slice none 0 0,.slice none 0 0] 25,ah q p,.box t [al (IntKind.i64.wrap (f.Revision+1)),r,q] 25,.box B (lP c) 89,.box L (tp C) 75] [aL bc o l,an ab H F,an ab u z,aL ab d b.Inputs,aL aa e b.Records,an aa p f.Records,br,nB W0 No [aQ d g,ah e j] [aL bc o l,an ab g b.Inputs,an aa j b.Records,br]] a w∧em f c F G D C V a9=some f2) ?_ ?_
        ·exact fz
        rintro a w ⟨a9,hS,hM⟩;unfold em at hM;rcases cd hM with⟨f5,hM⟩|⟨f5,hM⟩
        ·refine am hS fun a hS=>?_;refine qy hS (bp (ps:=[(0,.tmp 126),(1,.tmp 128),(2,.tmp 130)]) hS IU xL rfl (us:=[(aV c.Key),[aZ c.Value],[al (IntKind.i64.wrap (f.Revision+1))]]) ⟨rfl,⟨rfl,⟨rfl,trivial⟩⟩⟩ (ws:=[al c.Key.Kind,aZ c.Key.Text,aZ c.Value,al (IntKind.i64.wrap (f.Revision+1))]) rfl) fun a hS=>?_;refine wl rfl (bj (ps:=[(0,.tmp 131)]) hS zh xL (zl:=[al 0,aZ bW,aZ bW,al 0]) (by kernel_rfl) rfl (us:=[[al c.Key.Kind,aZ c.Key.Text,aZ c.Value,al (IntKind.i64.wrap (f.Revision+1))]]) ⟨rfl,trivial⟩ (ws:=[al c.Key.Kind,aZ c.Key.Text,aZ c.Value,al (IntKind.i64.wrap (f.Revision+1))]) rfl rfl rfl rfl fun h1 a w hk hS=>?_);replace hS:=(hS.lit (R:=ab) (us:=[al c.Key.Kind,aZ c.Key.Text,aZ c.Value,al (IntKind.i64.wrap (f.Revision+1))]) (xs:=[(aT.mk c.Key c.Value (IntKind.i64.wrap (f.Revision+1)))]) 0 rfl (by decide) (az.one_ (R:=ab) (x:=(aT.mk c.Key c.Value (IntKind.i64.wrap (f.Revision+1)))) rfl) rfl rfl).freeze (R:=ab) 0 rfl 0 rfl;obtain⟨fd,hM⟩:=bm hM;refine wl rfl (bB (R:=ab) (xs:=F) (ys:=[(aT.mk c.Key c.Value (IntKind.i64.wrap (f.Revision+1)))]) hS zh (by decide) (by decide) rfl rfl 0 rfl 3 rfl 0 rfl fd rfl fun hC ha a w hk hS=>?_);exact fz
        exact fz
       rintro a w ⟨S,b4,b9,a4,hS,hM⟩;unfold ek at hM;refine am hS fun a hS=>?_;rcases cd hM with⟨fl,hM⟩|⟨fl,hM⟩
       ·refine am hS fun a hS=>?_;refine wl rfl (bj (ps:=[(0,.tmp 137)]) hS zh xL (zl:=[al 0,aZ bW,aZ bW,al 0]) (by kernel_rfl) rfl (us:=[(tp C)]) ⟨rfl,trivial⟩ (ws:=(tp C)) rfl rfl rfl rfl fun h2 a w hk hS=>?_);replace hS:=(hS.lit (R:=ab) (us:=(tp C)) (xs:=[C]) 0 rfl (by decide) (az.one_ (R:=ab) (x:=C) rfl) rfl rfl).freeze (R:=ab) 0 rfl 0 rfl;obtain⟨fn,hM⟩:=bm hM;refine wl rfl (bB (R:=ab) (xs:=S) (ys:=[C]) hS zh (by decide) (by decide) rfl rfl 0 rfl 3 rfl 0 rfl fn rfl fun hD hb a w hk hS=>?_);exact fz
       exact fz
      rintro a w ⟨ag,b3,b8,a3,hS,hM⟩;unfold ej at hM;exact fz
     refine am hS fun a hS=>?_;cases hM
     have hr:=hf2 _ rfl;subst hr;have hM:eh f A c F G=some K:=hMo2;exact⟨_,_,_,_,hS.mt [0,2,3,1,4,5,6] [0,1,3,4,2,5,6,7],hM⟩
    rintro a w ⟨Q,b2,b6,a2,hS,hM⟩;unfold eh at hM;refine aK (J:=fun a w=>∃ (af:LI) (bb:Value) (a5:LV),St W0 No T 172 [(1,o),(2,pt m 0),(4,pt n 0),(10,pt t 0),(11,.bool true),(17,bb),(70,o),(71,al (l.length:Int)),(72,al A)] [aQ bb a5,.box m (a6 b d e) 25,.box n [al 0,.slice none 0 0,.slice none 0 0] 25,aQ r u,ah q p,.box t [al (IntKind.i64.wrap (f.Revision+1)),r,q] 25] [aL bc o l,an ab a5 af,aL ab d b.Inputs,aL aa e b.Records,an ab u z,an aa p f.Records,br,nB W0 No [aQ d g,ah e j] [aL bc o l,an ab g b.Inputs,an aa j b.Records,br]] a w∧eg A af=some K) ?_ ?_
    ·skip;refine am hS fun a hS=>?_;rcases cd hM with⟨fr,hM⟩|⟨fr,hM⟩
     ·refine am hS fun a hS=>?_;refine qy hS (bp (ps:=[(0,.tmp 145),(1,.tmp 147),(2,.tmp 149)]) hS IU xL rfl (us:=[(aV c.Key),[aZ c.Value],[al (IntKind.i64.wrap (f.Revision+1))]]) ⟨rfl,⟨rfl,⟨rfl,trivial⟩⟩⟩ (ws:=[al c.Key.Kind,aZ c.Key.Text,aZ c.Value,al (IntKind.i64.wrap (f.Revision+1))]) rfl) fun a hS=>?_;refine wl rfl (bj (ps:=[(0,.tmp 150)]) hS zh xL (zl:=[al 0,aZ bW,aZ bW,al 0]) (by kernel_rfl) rfl (us:=[[al c.Key.Kind,aZ c.Key.Text,aZ c.Value,al (IntKind.i64.wrap (f.Revision+1))]]) ⟨rfl,trivial⟩ (ws:=[al c.Key.Kind,aZ c.Key.Text,aZ c.Value,al (IntKind.i64.wrap (f.Revision+1))]) rfl rfl rfl rfl fun h3 a w hk hS=>?_);replace hS:=(hS.lit (R:=ab) (us:=[al c.Key.Kind,aZ c.Key.Text,aZ c.Value,al (IntKind.i64.wrap (f.Revision+1))]) (xs:=[(aT.mk c.Key c.Value (IntKind.i64.wrap (f.Revision+1)))]) 0 rfl (by decide) (az.one_ (R:=ab) (x:=(aT.mk c.Key c.Value (IntKind.i64.wrap (f.Revision+1)))) rfl) rfl rfl).freeze (R:=ab) 0 rfl 0 rfl;obtain⟨fs,hM⟩:=bm hM;refine wl rfl (bB (R:=ab) (xs:=Q) (ys:=[(aT.mk c.Key c.Value (IntKind.i64.wrap (f.Revision+1)))]) hS zh (by decide) (by decide) rfl rfl 0 rfl 3 rfl 0 rfl fs rfl fun hE hc a w hk hS=>?_);exact fz
     exact fz
    rintro a w ⟨af,bb,a5,hS,hM⟩;unfold eg at hM;exact fz
   rintro a w ⟨a0,b1,b5,a1,hS,hM⟩;unfold gQ at hM;exact fz
  refine am hS fun a hS=>?_;cases hM
  have hr:=hf1 _ rfl;subst hr;have hM:jF b f E z=some y:=hMo1;exact⟨_,_,_,_,hS.mt [0,1,2,3,4] [1,2,3,4,5,6],hM⟩
 rintro a w ⟨Z,b0,W,M,hS,hM⟩;unfold jF at hM;refine ay ?_;refine am hS fun a hS=>?_;rcases cd hM with⟨fM,hM⟩|⟨fM,hM⟩
 ·refine go hS fun a w hS=>?_;replace hS:=hS.thaw 5 rfl;cases hM
  refine aG hS Tryz.results26 (bh hS rfl 3 rfl eZ rfl (fun h=>by cases h) (aw hS rfl aF)) ?_;exact⟨d,g,e,j,rfl,hS.retOwn ⟨.inr (aH (i:=0) rfl),⟨.inr (aH (i:=1) rfl),trivial⟩⟩ 0 rfl 1 rfl,hS.retOwn ⟨.inr (aH (i:=0) rfl),⟨.inr (aH (i:=1) rfl),trivial⟩⟩ 1 rfl 2 rfl,(hS.apart2 0 rfl 1 rfl (by decide))⟩
 refine am hS fun a hS=>?_;rcases cd hM with⟨g0,hM⟩|⟨g0,hM⟩
 ·refine go hS fun a w hS=>?_;replace hS:=hS.thaw 5 rfl;cases hM
  refine aG hS Tryz.results26 (bh hS rfl 3 rfl eZ rfl (fun h=>by cases h) (aw hS rfl aF)) ?_;exact⟨d,g,e,j,rfl,hS.retOwn ⟨.inr (aH (i:=0) rfl),⟨.inr (aH (i:=1) rfl),trivial⟩⟩ 0 rfl 1 rfl,hS.retOwn ⟨.inr (aH (i:=0) rfl),⟨.inr (aH (i:=1) rfl),trivial⟩⟩ 1 rfl 2 rfl,(hS.apart2 0 rfl 1 rfl (by decide))⟩
 refine am hS fun a hS=>?_;rcases cd hM with⟨g1,hM⟩|⟨g1,hM⟩
 ·refine go hS fun a w hS=>?_;replace hS:=hS.thaw 5 rfl;cases hM
  refine aG hS Tryz.results26 (bh hS rfl 3 rfl eZ rfl (fun h=>by cases h) (aw hS rfl aF)) ?_;exact⟨d,g,e,j,rfl,hS.retOwn ⟨.inr (aH (i:=0) rfl),⟨.inr (aH (i:=1) rfl),trivial⟩⟩ 0 rfl 1 rfl,hS.retOwn ⟨.inr (aH (i:=0) rfl),⟨.inr (aH (i:=1) rfl),trivial⟩⟩ 1 rfl 2 rfl,(hS.apart2 0 rfl 1 rfl (by decide))⟩
 refine go hS fun a w hS=>?_;cases hM
 refine aG hS Tryz.results26 (bh hS rfl 1 rfl eZ rfl (fun h=>by cases h) (aw hS rfl aF)) ?_;exact⟨W,M,q,p,rfl,hS.retOwn ⟨.inr (aH (i:=2) rfl),⟨.inr (aH (i:=3) rfl),trivial⟩⟩ 2 rfl 2 rfl,hS.retOwn ⟨.inr (aH (i:=2) rfl),⟨.inr (aH (i:=3) rfl),trivial⟩⟩ 3 rfl 3 rfl,(hS.apart2 2 rfl 3 rfl (by decide))⟩
end
end
end Go.Proofs.YtdcojaccpnabkaaGreatDoor
