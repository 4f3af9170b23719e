/- Texts of the proof, joined (1). -/
import Derived.Test.YtdcojaccpnabkaaGreatDoorA0
import Derived.Maps.RangeRun
import Derived.Test.YtdcojaccpnabkaaGreatDoorProg
set_option linter.unusedVariables false
set_option linter.unusedSimpArgs false
set_option linter.unusedSectionVars false
namespace Go.Proofs.YtdcojaccpnabkaaGreatDoor
section
open Go.RowKit
section
variable {P:Program} {W:World} {M T E:Nat→Prop} {n:Nat} {G G':List (Nat×Value)} {D D' D0 Dr rs:List cz} {F F':List bQ} {a:Act} {w w':World} {K:Act→World→Prop}
theorem St.notD {r:cz} (h:St W M T n G D F a w) (i:Nat) (hi:D[i]? = some r) {k:Nat} (hk:r.dom k):¬ dT T (D.eraseIdx i) k:=by
 have hlt:=(bH.1 hi).1;have hD:=(bH.1 hi).2;rintro (hT | ⟨s,hs,hT⟩)
 ·exact (h.free _ (aG hi) k hk).1 hT
 ·obtain⟨z,hz⟩:=gt.1 hs;rw [vI] at hz;split at hz
  ·rename_i hzi;have hzl:=(bH.1 hz).1;have:=gv.1 h.apart z i hzl hlt hzi k (by rw [(bH.1 hz).2]; exact hT);rw [hD] at this; exact this hk
  ·rename_i hzi;have hzl:=(bH.1 hz).1;have:=gv.1 h.apart i (z+1) hlt hzl (by omega) k (by rw [hD]; exact hk);rw [(bH.1 hz).2] at this; exact this hT
end
end
section
open Go.RowKit
structure OU (α ν β:Type) where
 R:aS α
 RN:aS ν
 RI:aS β
 et:TypeId
 get:α→List β
 put:List β→α→α
 nf:Value→α→ν
 size:RN.size=R.size
 pos:0<RI.size
 close:∀ {T:Nat→Prop} {w:World} {cs:bh} {v:Value} {x:α},RN.rel T w cs (nf v x)→aD RI T w v (get x)→R.rel T w cs x
 gp:∀ l x,get (put l x)=l
 np:∀ v l x,nf v (put l x)=nf v x
def M1 (e:TypeId) (sz:Nat):tA:=⟨.slice none 0 0,e,sz,[]⟩
section
variable {α ν β:Type} (N:OU α ν β)
def OU.no:tA:=M1 N.et N.RI.size
variable {N}
variable {P:Program} {W:World} {M T E:Nat→Prop} {n:Nat} {G G':List (Nat×Value)} {D D' D0 Dr rs:List cz} {F F':List bQ} {a:Act} {w w':World} {K:Act→World→Prop}
end
end
section
open Go.RowKit
section
variable {P:Program} {W:World} {M T E:Nat→Prop} {n:Nat} {G G':List (Nat×Value)} {D D' D0 Dr rs:List cz} {F F':List bQ} {a:Act} {w w':World} {K:Act→World→Prop}
end
end
section
open Go.RowKit
def L8 {κ ν:Type} (RK:aS κ) (ak:Bool) (RV:aS ν) (av:Bool) (T:Nat→Prop) (W w:World) (rs:List cz) (b:Nat) (es:Array MapEntry) (ck:Nat) (xs:List (κ×ν)):Prop :=
 w.heap[b]? = some (.map es ck)∧W.heap.size≤b∧bK RK ak RV av (dT T rs) w es xs
theorem EK {W:World} {b:Nat} {o:Obj} (h:W.heap.size≤b):∀ k,cz.dom (.obj b o) k→W.heap.size≤k:=fun k hk=>by
 simp only [cz.dom,cS] at hk; omega
section
variable {κ ν:Type} {P:Program} {W:World} {M T E:Nat→Prop} {n:Nat} {G:List (Nat×Value)} {D rs:List cz} {F:List bQ} {a:Act} {w:World}
theorem St.retMap {RK:aS κ} {ak:Bool} {RV:aS ν} {av:Bool} {b ck:Nat} {es:Array MapEntry} {xs:List (κ×ν)} (h:St W No T n G D F a w) (hi:H0 D rs) (i:Nat) (hd:D[i]? = some (.obj b (.map es ck))) (j:Nat) (hj:F[j]? = some (pq RK ak RV av es xs)):L8 RK ak RV av T W w rs b es ck xs:=by
 have hm:=aG hd;exact⟨h.own _ hm,(h.free _ hm b rfl).2.resolve_left fun h=>h,(h.get j hj:bK RK ak RV av (dT T D) w es xs).keep (ai _ _) fun k hk=>.inl (hi.sub k hk)⟩
end
end
section
open Go.RowKit
variable {pos:String} {af:Array Edge} {g:Option (Nat×Bool)}
def HR {α:Type} (R:aS α):aS (bh ⊕ α) where
 size:=R.size
 rel:=fun T w cs y=>match y with
  | .inl c=>cs=c∧c.length=R.size∧∀ u∈c,u.oneCell'=true
  | .inr x=>R.rel T w cs x
 len:=fun {T w cs y} h=>by
  cases y with
  | inl c=>obtain⟨rfl,h,_⟩:=h; exact h
  | inr x=>exact R.len h
 one:=fun {T w cs y} h=>by
  cases y with
  | inl c=>obtain⟨rfl,_,h⟩:=h; exact h
  | inr x=>exact R.one h
 keep:=fun {T T' w w' cs y} h k n=>by
  cases y with
  | inl c=>exact h
  | inr x=>exact R.keep h k n
def fi {α:Type} (xs:List α) (i:Int) (cs:bh):List (bh ⊕ α):=(xs.map Sum.inr).set i.toNat (Sum.inl cs)
theorem vX {α:Type} {xs:List α} {i:Int} {cs:bh}:(fi xs i cs).length=xs.length:=by unfold fi; simp
section
variable {α:Type} {R:aS α} {P:Program} {W:World} {M T E:Nat→Prop} {n:Nat} {G:List (Nat×Value)} {D rs:List cz} {F:List bQ} {a:Act} {w:World} {K:Act→World→Prop} {xs:List α} {i:Int} {x:α} {cs cl:bh}
theorem uo (h:bg xs i=some x) (cs:bh):bg (fi xs i cs) i=some (Sum.inl cs):=by
 obtain⟨q1,q2,q3⟩:=gw h;unfold bg fi;have:=(bH.1 q3).1;rw [if_pos q1,qd,if_pos rfl,if_pos (by simpa using this)]
theorem GG (cs cs':bh):(fi xs i cs).set i.toNat (Sum.inl cs')=fi xs i cs':=by
 unfold fi; rw [List.set_set]
theorem Hr {T:Nat→Prop} (h:aB R T w cl xs):aB (HR R) T w cl (xs.map Sum.inr):=by
 refine⟨by rw [gc]; exact h.1,fun k y hy=>?_⟩;rw [qf] at hy;cases hx:xs[k]? with
 | none=>rw [hx] at hy; cases hy
 | some x =>
  rw [hx] at hy;obtain rfl:=cR hy;exact h.2 k x hx
theorem St.openH (hS:St W M T n G D F a w) (j:Nat) (hj:F[j]? = some (ao R cl xs)):St W M T n G D (ao (HR R) cl (xs.map Sum.inr)::F) a w:=hS.fact _ (Hr (hS.get j hj))
theorem dN {v:Value} {b o p:Nat} (hS:St W M T n G D F a w) (j:Nat) (hj:F[j]? = some (ao (HR R) cl (fi xs i cs))) (ho:H1 v b o R.size i p) (hg:bg xs i=some x):∀ k u,cs[k]? = some u→cl[p+k]? = some u:=by
 obtain⟨off,m,c,rfl,rfl,rfl⟩:=ho;obtain⟨q1,q2,q3⟩:=gw (uo hg cs);obtain⟨c2,⟨rfl,_,_⟩,h2⟩:=(hS.get j hj:aB (HR R) (dT T D) w cl (fi xs i cs)).2 _ _ q3;exact h2
theorem CG {T:Nat→Prop} (hS:aB (HR R) T w cl (fi xs i cs)) (hg:bg xs i=some x):(HR R).rel T w cs (Sum.inl cs):=by
 obtain⟨q1,q2,q3⟩:=gw (uo hg cs);obtain⟨c2,⟨rfl,h1,h2⟩,_⟩:=hS.2 _ _ q3;exact⟨rfl,h1,h2⟩
theorem St.closeH {x':α} (hS:St W M T n G D F a w) (j:Nat) (hj:F[j]? = some (ao (HR R) cl (fi xs i cs))) (hr:R.rel (dT T D) w cs x'):St W M T n G D (ao R cl (xs.set i.toNat x')::F) a w:=by
 have h:aB (HR R) (dT T D) w cl (fi xs i cs):=hS.get j hj;refine hS.fact _ ⟨by rw [rG,← vX (xs:=xs) (i:=i) (cs:=cs)]; exact h.1,fun k y hy=>?_⟩;rw [qd] at hy;by_cases hk:i.toNat=k
 ·subst hk;rw [if_pos rfl] at hy;split at hy
  ·rename_i hl;obtain rfl:=cR hy;obtain⟨c2,⟨rfl,_,_⟩,h2⟩:=h.2 i.toNat (Sum.inl cs) (by unfold fi; rw [qd,if_pos rfl,if_pos (by simpa using hl)]);exact⟨_,hr,h2⟩
  ·cases hy
 ·rw [if_neg hk] at hy;exact h.2 k (Sum.inr y) (by unfold fi; rw [qd,if_neg hk,qf,hy]; rfl)
theorem GK {t ty e:TypeId} {X Y:Operand} {ag:Bool} {z b o k p:Nat} {v u:Value} {us:bh} (hS:St W M T n G D F a w) (hX:ev G X=some (.pointer (some ⟨b,o+k,none⟩))) (hY:ev G Y=some u) (hu:u.cells.toList=us) (ht:oz P t=some (ag,z)) (q:Nat) (hq:D[q]? = some (.own v e R.size cl)) (j:Nat) (hj:F[j]? = some (ao (HR R) cl (fi xs i cs))) (ho:H1 v b o R.size i p) (hg:bg xs i=some x)
  (hz:us.length=z) (hl:Nat.ble (k+z) cs.length=true) (hone:∀ y∈mL cs k us,y.oneCell'=true)
  (K':∀ cl' w',Kt (fun j=>v.ownBlock=some j) w w'→St W M T n G (D.set q (.own v e R.size cl')) (ao (HR R) cl' (fi xs i (mL cs k us))::F) a w'→K a w'):rI P ⟨none,.store t X Y,ty,pos,af,g⟩ a w K:=by
 have hr:(HR R).rel (dT T D) w cs (Sum.inl cs):=CG (hS.get j hj) hg;have hlen:(mL cs k us).length=R.size:=by
  have h1:=hr.2.1;have:=ql hl;unfold mL;simp only [bL,dh,pS];omega
 exact fW (R:=HR R) (xs:=fi xs i cs) (x:=Sum.inl cs) (x':=Sum.inl (mL cs k us)) (k:=k) (cs:=cs) (us:=us) hS hX hY hu ht q hq j hj ho (dN hS j hj ho hg) (uo hg cs) hr hz hl ⟨rfl,hlen,hone⟩ fun cl' w' hk hS'=>K' cl' w' hk (by rw [GG] at hS'; exact hS')
end
end
section
open Go.RowKit
structure Pb {κ β:Type} (RK:aS κ) (ak:Bool) (RI:aS β) (e:TypeId) (T:Nat→Prop) (w:World) (es:Array MapEntry) (ck:Nat) (inn:List tA) (xs:List (κ×List β)):Prop where
 n1:es.size=xs.length
 n2:inn.length=xs.length
 ky:∀ (i:Nat) (m:MapEntry) (x:κ×List β),es[i]? = some m→xs[i]? = some x→∃ c,RK.rel T w c x.1∧m.key=bk ak c
 val:∀ (i:Nat) (m:MapEntry) (o:tA),es[i]? = some m→inn[i]? = some o→m.val=o.v
 row:∀ (i:Nat) (o:tA) (x:κ×List β),inn[i]? = some o→xs[i]? = some x→o.e=e∧o.sz=RI.size∧aB RI T w o.cl x.2
 lt:∀ (i:Nat) (m:MapEntry),es[i]? = some m→m.born<ck
 inj:∀ (i j:Nat) (m m':MapEntry),es[i]? = some m→es[j]? = some m'→m.born=m'.born→i=j
structure Pa {κ β:Type} (RK:aS κ) (ak:Bool) (RI:aS β) (e:TypeId) (q:κ→κ→Bool) (T:Nat→Prop) (w:World) (es:Array MapEntry) (ck:Nat) (inn:List tA) (xs0:List (κ×List β)) (key:κ) (s:Int) (p:Nat):Prop where
 n1:es.size=(d9 q key [] xs0).length
 n2:inn.length=(d9 q key [] xs0).length
 ky:∀ (i:Nat) (m:MapEntry) (x:κ×List β),es[i]? = some m→(d9 q key [] xs0)[i]? = some x→∃ c,RK.rel T w c x.1∧m.key=bk ak c
 val:∀ (i:Nat) (m:MapEntry) (o:tA),i≠p→es[i]? = some m→inn[i]? = some o→m.val=o.v
 row:∀ (i:Nat) (o:tA) (x:κ×List β),inn[i]? = some o→(d9 q key [] xs0)[i]? = some x→o.e=e∧o.sz=RI.size∧aB RI T w o.cl x.2
 lt:∀ (i:Nat) (m:MapEntry),es[i]? = some m→m.born<ck
 inj:∀ (i j:Nat) (m m':MapEntry),es[i]? = some m→es[j]? = some m'→m.born=m'.born→i=j
 at_:∃ m,es[p]? = some m∧s=(m.born:Int)
 no:inn[p]? = some (M1 e RI.size)
 it:(d9 q key [] xs0)[p]? = some (key,[])
 set:∀ ys,(d9 q key [] xs0).set p (key,ys)=d9 q key ys xs0
section
variable {κ β:Type} {P:Program} {W:World} {M T E:Nat→Prop} {n:Nat} {G G':List (Nat×Value)} {D D':List cz} {F F':List bQ} {a:Act} {w w':World} {K:Act→World→Prop}
variable {kt et:TypeId} {RK:aS κ} {ak:Bool} {RI:aS β} {e:TypeId} {q:κ→κ→Bool} {b ck:Nat} {es:Array MapEntry} {inn:List tA} {xs:List (κ×List β)}
end
end
section
open Go.RowKit
def L9 {κ ν:Type} (RK:aS κ) (ak:Bool) (RV:aS ν) (av:Bool) (T:Nat→Prop) (w:World) (v:Value) (xs:List (κ×ν)):Prop :=
 ∃ b es ck,v = .map (some b)∧¬ T b∧w.heap[b]? = some (.map es ck)∧bK RK ak RV av T w es xs
section
variable {κ ν:Type} {RK:aS κ} {ak:Bool} {RV:aS ν} {av:Bool}
theorem L9.keep {T T':Nat→Prop} {w w':World} {v:Value} {xs:List (κ×ν)} (h:L9 RK ak RV av T w v xs) (k:Kt T w w') (hn:Nw T T' w):L9 RK ak RV av T' w' v xs:=by
 obtain⟨b,es,ck,h1,h2,h3,h4⟩:=h;have hl:=(uk.1 h3).1;exact⟨b,es,ck,h1,fun ht=>by rcases hn b ht with h | h; exact h2 h; omega,(k.block b hl h2).trans h3,h4.keep k hn⟩
theorem L9.one {T:Nat→Prop} {w:World} {v:Value} {xs:List (κ×ν)} (h:L9 RK ak RV av T w v xs):v.oneCell'=true:=by obtain⟨b,es,ck,rfl,_⟩:=h; rfl
end
section
variable {κ ν:Type} {P:Program} {W:World} {M T E:Nat→Prop} {n:Nat} {G G':List (Nat×Value)} {D D':List cz} {F F':List bQ} {a:Act} {w w':World} {K:Act→World→Prop}
variable {kt et:TypeId} {RK:aS κ} {ak:Bool} {RV:aS ν} {av:Bool} {q:κ→κ→Bool} {b clock:Nat} {es:Array MapEntry} {xs:List (κ×ν)}
end
end
section
open Go.RowKit
def Wt (ops:Array Oper) (G:List (Nat×Value)) (o:Oper):Prop:=o.guard=none∨∃ (j t:Nat) (want c:Bool),o.guard=some (j,want)∧(ops[j]?).bind (·.dst)=some t∧lk G t=some (.bool c)∧c=want
section
variable {P:Program} {ops:Array Oper} {Q:Exit→Act→World→Prop}
theorem Wt.ok {mods:List (Nat×Tn)} {W:World} {M T:Nat→Prop} {n:Nat} {G:List (Nat×Value)} {D:List cz} {F:List bQ} {a:Act} {w:World} {o:Oper} (hS:St W M T n G D F a w) (h:Wt ops G o):Region.wanted o (yielded ops a.tmps)=true:=by
 rcases h with h | ⟨j,t,want,c,h1,h2,h3,h4⟩
 ·simp [Region.wanted,h]
 ·rw [o0 hS h1 h2 h3,h4]; simp
end
end
section
open Go.RowKit
theorem Hw {α:Type} {xs:List α} {i:Int} {x:α} (h:bg xs i=some x):xs.set i.toNat x=xs:=by
 obtain⟨_,_,h3⟩:=gw h;obtain⟨h4,h5⟩:=bH.1 h3;rw [← h5]; exact List.set_getElem_self h4
end
section
open Go.RowKit
variable {pos:String} {af:Array Edge} {g:Option (Nat×Bool)}
structure kW (es:Array MapEntry) (ck:Nat):Prop where
  lt:∀ (i:Nat) (m:MapEntry),es[i]? = some m→m.born<ck
  inj:∀ (i j:Nat) (m m':MapEntry),es[i]? = some m→es[j]? = some m'→m.born=m'.born→i=j
theorem kW.nil:kW #[] 0:=⟨fun i m h=>by simp at h,fun i j m m' h=>by simp at h⟩
theorem kW.push {es:Array MapEntry} {ck:Nat} (h:kW es ck) (k v:Value):kW (es.push { key:=k,val:=v,born:=ck }) (ck+1):=by
  have old:∀ (z:Nat) (m:MapEntry),(es.push { key:=k,val:=v,born:=ck })[z]? = some m→(z<es.size∧es[z]? = some m)∨(z=es.size∧m={ key:=k,val:=v,born:=ck }):=by
    intro z m hz;rw [Array.getElem?_push] at hz;split at hz
    · rename_i h; injection hz with hz; exact .inr ⟨h,hz.symm⟩
    · exact .inl ⟨(uk.1 hz).1,hz⟩
  refine⟨fun z m hz=>?_,fun z z' m m' hz hz' hb=>?_⟩
  · rcases old z m hz with⟨_,h2⟩|⟨rfl,rfl⟩
    · have:=h.lt z m h2; omega
    · exact Nat.lt_succ_self _
  · rcases old z m hz with⟨_,h2⟩|⟨rfl,rfl⟩ <;> rcases old z' m' hz' with⟨_,h2'⟩|⟨rfl,rfl⟩
    · exact h.inj z z' m m' h2 h2' hb
    · have:=h.lt z m h2; simp only at hb; omega
    · have:=h.lt z' m' h2'; simp only at hb; omega
    · rfl
theorem vq {es:Array MapEntry} {p:Nat} {f:MapEntry→MapEntry} {z:Nat} {m:MapEntry} (hz:(es.modify p f)[z]? = some m):∃ m0,es[z]? = some m0∧m=if p=z then f m0 else m0:=by
  rw [ud] at hz;split at hz
  · rename_i h;obtain⟨m0,h1,rfl⟩:=BX.1 hz;exact⟨m0,h1,by rw [if_pos h]⟩
  · rename_i h; exact⟨m,hz,by rw [if_neg h]⟩
theorem kW.modify {es:Array MapEntry} {ck:Nat} (h:kW es ck) (p:Nat) (f:MapEntry→MapEntry) (hf:∀ e,(f e).born=e.born):kW (es.modify p f) ck:=by
  have old:∀ (z:Nat) (m:MapEntry),(es.modify p f)[z]? = some m→∃ m0,es[z]? = some m0∧m.born=m0.born:=by
    intro z m hz;obtain⟨m0,h1,rfl⟩:=vq hz;refine⟨m0,h1,?_⟩;split
    · exact hf m0
    · rfl
  refine⟨fun z m hz=>?_,fun z z' m m' hz hz' hb=>?_⟩
  · obtain⟨m0,h1,h2⟩:=old z m hz; rw [h2]; exact h.lt z m0 h1
  · obtain⟨m0,h1,h2⟩:=old z m hz;obtain⟨m1,h3,h4⟩:=old z' m' hz';exact h.inj z z' m0 m1 h1 h3 (by rw [← h2,← h4]; exact hb)
theorem kW.nodup {es:Array MapEntry} {ck:Nat} (h:kW es ck):(es.toList.map (·.born)).Nodup:=by
  rw [List.nodup_iff_pairwise_ne,gv];intro i j hi hj hij e;simp only [List.getElem_map,Array.getElem_toList] at e;simp only [gc,Array.length_toList] at hi hj;have:=h.inj i j _ _ (o4 hi) (o4 hj) e;omega
theorem kW.find {es:Array MapEntry} {ck p:Nat} {m0:MapEntry} (h:kW es ck) (hm0:es[p]? = some m0):es.findIdx? (fun m=>(m.born:Int)==(m0.born:Int))=some p:=by
  rw [Array.findIdx?_eq_some_iff_getElem];obtain⟨h1,h2⟩:=uk.1 hm0;refine⟨h1,by simp [h2],fun z hz=>?_⟩;have hzl:z<es.size:=by omega
  intro h3;have h3:(es[z].born:Int)=(m0.born:Int):=by simpa using h3
  have:=h.inj z p _ _ (o4 hzl) hm0 (by omega);omega
def zU (es:Array MapEntry) (ck:Nat):bQ:=⟨fun _ _=>kW es ck,fun h _ _=>h⟩
def L4 {κ ν:Type} (RK:aS κ) (ak:Bool) (RV:aS ν) (av:Bool) (q:κ→κ→Bool) (es:Array MapEntry) (ck:Nat) (xs:List (κ×ν)) (key:κ) (s:Int):bQ :=
  ⟨fun T w=>∃ (u:ν) (p:Nat) (m:MapEntry),bK RK ak RV av T w es (d9 q key u xs)∧kW es ck∧es[p]? = some m∧s=m.born∧∀ y,(d9 q key u xs).set p (key,y)=d9 q key y xs,
   fun h k n=>by obtain⟨u,p,m,h1,h2⟩:=h; exact⟨u,p,m,h1.keep k n,h2⟩⟩
section
variable {κ ν:Type} {P:Program} {W:World} {M T E:Nat→Prop} {n:Nat} {G G':List (Nat×Value)} {D D':List cz} {F F':List bQ} {a:Act} {w w':World} {K:Act→World→Prop}
variable {kt et:TypeId} {RK:aS κ} {ak:Bool} {RV:aS ν} {av:Bool} {q:κ→κ→Bool} {b clock:Nat} {es:Array MapEntry} {xs:List (κ×ν)}
theorem FB {t:TypeId} (ht:FA P t=some (kt,et)) (hK:wL P kt RK ak q) {T:Nat→Prop} {w w0:World} (hr:w.heap[b]? = some (.map es clock)) (hm:bK RK ak RV av T w0 es xs) (hB:kW es clock) {c cv:bh} {key:κ} {val:ν} (hc:RK.rel T w0 c key) (hv:RV.rel T w0 cv val) :
    ∃ es' ck',(Instr.mapUpdate t (.map (some b)) (bk ak c) (bk av cv)).run P w = .ok () { w with heap:=w.heap.setIfInBounds b (.map es' ck') }∧bK RK ak RV av T w0 es' (d9 q key val xs)∧kW es' ck':=by
  obtain⟨hl,hkeys⟩:=ux hm;have hf:=qZ hK hc w hl hkeys;have hch:=hK.check false _ _ w _ _ hc;cases hp:s6 q key xs with
  | none =>
    obtain⟨_,g2,_⟩:=qH hp;rw [hp] at hf;refine⟨es.push { key:=bk ak c,val:=bk av cv,born:=clock },clock+1,?_,⟨by rw [g2]; simp [hm.1],fun z e x he hx=>?_⟩,hB.push _ _⟩
    · simp [Instr.mapUpdate,run_underlying (mU ht),vj hr,hch,hf,xW,BO _ hr]
    · rw [g2] at hx;by_cases hz:z<xs.length
      · rw [lM hz] at hx;rw [D9 (by rw [hm.1]; exact hz)] at he;exact hm.2 z e x (by rw [← he]; exact (o4 _)) hx
      · rw [lN (by omega)] at hx;obtain rfl:z=xs.length:=by
          rcases i6 xs.length z with h | h
          · rw [xe (by simp; omega)] at hx; cases hx
          · omega
        simp at hx;subst hx;rw [← hm.1,BY] at he;simp only [cS] at he;subst he;exact⟨⟨c,hc,rfl⟩,cv,hv,rfl⟩
  | some p =>
    obtain⟨x0,hx0,hq0,_,g2,_⟩:=qI hp;have hpi:p<es.size:=by rw [hm.1]; exact (bH.1 hx0).1
    have he0:es[p]? = some es[p]:=o4 hpi;obtain⟨⟨d0,hd0,hk0⟩,_⟩:=hm.2 p _ x0 he0 hx0;have hbits:=hK.bits _ _ _ _ _ _ _ _ hc hd0 hq0;rw [hp] at hf;refine⟨es.modify p fun e=>{ e with key:=bk ak c,val:=bk av cv },clock,?_,⟨by rw [g2]; simp [hm.1],fun z e x he hx=>?_⟩,hB.modify p _ fun _=>rfl⟩
    · have hat:xW es.toList 0 (some p)=some (p,es[p].val):=by simp [xW,he0]
      rw [hat] at hf;have hkt:(Instr.keyThatStays (((es[p]?).map (·.key)).getD (bk ak c)) (bk ak c)).run P w = .ok (bk ak c) w:=by
        rw [he0];simp only [iY,xf,hk0,Instr.keyThatStays,hbits,if_true,Sem.run_pure]
      simp only [Instr.mapUpdate,Sem.run_bind,run_underlying (mU ht),Result.andThen_ok,vj hr,hch,hf,hkt,BO _ hr]
    · rw [g2] at hx;by_cases hz:p=z
      · subst hz;rw [uj (by rw [← hm.1]; exact hpi)] at hx;simp only [cS] at hx;subst hx;rw [ud,if_pos rfl,he0] at he;simp only [iY,cS] at he;subst he;exact⟨⟨c,hc,rfl⟩,cv,hv,rfl⟩
      · rw [ov hz] at hx;rw [ud,if_neg hz] at he;exact hm.2 z e x he hx
theorem CK {d:Nat} {t ty:TypeId} (RK:aS κ) (ak:Bool) (RV:aS ν) (av:Bool) (hS:St W M T n G D F a w) (hn:Nat.blt d n=true)
    (k:∀ b,w.heap.size≤b→∀ a w',Kt No w w'→St W M T n ((d,.map (some b))::G) (.obj b (.map #[] 0)::D) (zU #[] 0::pq RK ak RV av #[] []::F) a w'→K a w'):rI P ⟨some d,.makeMap t none,ty,pos,af,g⟩ a w K :=
  rN RK ak RV av hS hn fun b hb a w' hk hS=>k b hb a w' hk (hS.fact _ kW.nil)
theorem EB {t ty:TypeId} {X Y Z:Operand} (hS:St W M T n G D F a w) (ht:FA P t=some (kt,et)) (hK:wL P kt RK ak q) (i:Nat) (hi:D[i]? = some (.obj b (.map es clock))) (j:Nat) (hj:F[j]? = some (pq RK ak RV av es xs)) (jb:Nat) (hb:F[jb]? = some (zU es clock))
    {c cv:bh} {key:κ} {val:ν} (hc:RK.rel (dT T D) w c key) (hv:RV.rel (dT T D) w cv val) (hX:ev G X=some (.map (some b))) (hY:ev G Y=some (bk ak c)) (hZ:ev G Z=some (bk av cv))
    (k:∀ es' ck' w',Kt (fun j=>j=b) w w'→St W M T n G (D.set i (.obj b (.map es' ck'))) (zU es' ck'::pq RK ak RV av es' (d9 q key val xs)::F) a w'→K a w'):rI P ⟨none,.mapUpdate t X Y Z,ty,pos,af,g⟩ a w K:=by
  have hr:w.heap[b]? = some (.map es clock):=hS.own _ (aG hi);obtain⟨es',ck',hrun,hok,hB⟩:=FB ht hK hr (hS.mapOk j hj) (hS.get jb hb) hc hv;refine CM (w':={ w with heap:=w.heap.setIfInBounds b (.map es' ck') }) (by simp [execOp,hS.ev hX,hS.ev hY,hS.ev hZ,hrun]) (k es' ck' _ ((qc hr).mono fun j hj=>(cR hj).symm) ?_);exact ((hS.fact (pq RK ak RV av es' _) hok).fact (zU es' ck') hB).turn hi (qc hr) (r':=.obj b (.map es' ck')) (pX hr).1 fun j hj=>.inl hj
theorem yP {t ty:TypeId} {X Y Z:Operand} (hS:St W M T n G D F a w) (ht:FA P t=some (kt,et)) (hK:wL P kt RK ak q) (i:Nat) (hi:D[i]? = some (.obj b (.map es clock))) (j:Nat) (hj:F[j]? = some (pq RK ak RV av es xs)) (jb:Nat) (hb:F[jb]? = some (zU es clock))
    {c cv:bh} {key:κ} {val:ν} (hc:RK.rel (dT T D) w c key) (hv:RV.rel (dT T D) w cv val) (hX:ev G X=some (.map (some b))) (hY:ev G Y=some (bk ak c)) (hZ:ev G Z=some (bk av cv))
    (k:∀ es' ck' w',Kt (fun j=>j=b) w w'→St W M T n G (D.set i (.obj b (.map es' ck'))) (zU es' ck'::pq RK ak RV av es' (d9 q key val xs)::F) a w'→K a w'):rI P ⟨none,.insert t X Y Z,ty,pos,af,g⟩ a w K :=
  EB (ty:=ty) (pos:=pos) (af:=af) (g:=g) hS ht hK i hi j hj jb hb hc hv hX hY hZ k
theorem Fx {d:Nat} {t ty:TypeId} {X Y:Operand} (hS:St W M T n G D F a w) (hd:Nat.blt d n=true) (ht:FA P t=some (kt,et)) (hK:wL P kt RK ak q) (i:Nat) (hi:D[i]? = some (.obj b (.map es clock))) (j:Nat) (hj:F[j]? = some (pq RK ak RV av es xs)) (jb:Nat) (hb:F[jb]? = some (zU es clock))
    {c:bh} {key:κ} (hc:RK.rel (dT T D) w c key) {z:Value} {zc:bh} {z0:ν} (hz:J9 P et=some z) (hzc:z=bk av zc) (hz0:RV.rel (dT T D) w zc z0) (hX:ev G X=some (.map (some b))) (hY:ev G Y=some (bk ak c))
    (k:∀ v es' ck' (s:Int) a w',Kt (fun j=>j=b) w w'→St W M T n ((d,.tuple #[v,.int .i64 s])::G) (D.set i (.obj b (.map es' ck'))) (L4 RK ak RV av q es' ck' xs key s::F) a w'→K a w'):rI P ⟨some d,.mapEntry t X Y,ty,pos,af,g⟩ a w K:=by
  have hr:w.heap[b]? = some (.map es clock):=hS.own _ (aG hi);have hm:=hS.mapOk j hj;have hB:kW es clock:=hS.get jb hb;obtain⟨hl,hkeys⟩:=ux hm;have hf:=qZ hK hc w hl hkeys;have hch:=hK.check false _ _ w _ _ hc;have hzr:=Ca (P:=P) hz w;cases hp:s6 q key xs with
  | none =>
    obtain⟨_,g2,_⟩:=qH hp;rw [hp] at hf;have hrun:(execOp a.eval ⟨some d,.mapEntry t X Y,ty,pos,af,g⟩).run P w = .ok (.value (.tuple #[z,.int .i64 clock])) { w with heap:=w.heap.setIfInBounds b (.map (es.push { key:=bk ak c,val:=z,born:=clock }) (clock+1)) }:=by
      simp [execOp,hS.ev hX,hS.ev hY,Instr.mapEntry,run_underlying (mU ht),vj hr,hch,hf,xW,BO _ hr,hzr,goInt]
    refine wV hrun (k z (es.push { key:=bk ak c,val:=z,born:=clock }) (clock+1) clock _ _ ((qc hr).mono fun j hj=>(cR hj).symm) ?_);refine St.put ?_ hd _;refine (hS.fact (L4 RK ak RV av q _ (clock+1) xs key clock) ?_).turn hi (qc hr) (r':=.obj b (.map (es.push { key:=bk ak c,val:=z,born:=clock }) (clock+1))) (pX hr).1 fun j hj=>.inl hj;refine⟨z0,xs.length,{ key:=bk ak c,val:=z,born:=clock },⟨by rw [g2]; simp [hm.1],fun y e x he hx=>?_⟩,hB.push _ _,by rw [← hm.1,BY],rfl,fun y=>by rw [g2,g2,tj _ _ (ce _)]; simp⟩;rw [g2] at hx;by_cases hz:y<xs.length
    · rw [lM hz] at hx;rw [D9 (by rw [hm.1]; exact hz)] at he;exact hm.2 y e x (by rw [← he]; exact (o4 _)) hx
    · rw [lN (by omega)] at hx;obtain rfl:y=xs.length:=by
        rcases i6 xs.length y with h | h
        · rw [xe (by simp; omega)] at hx; cases hx
        · omega
      simp at hx;subst hx;rw [← hm.1,BY] at he;simp only [cS] at he;subst he;exact⟨⟨c,hc,rfl⟩,zc,hz0,hzc⟩
  | some p =>
    obtain⟨x0,hx0,hq0,_,g2,_⟩:=qI hp;have hpi:p<es.size:=by rw [hm.1]; exact (bH.1 hx0).1
    have hpx:p<xs.length:=(bH.1 hx0).1;have he0:es[p]? = some es[p]:=o4 hpi;obtain⟨⟨d0,hd0,hk0⟩,cv0,hcv0,hv0⟩:=hm.2 p _ x0 he0 hx0;have hbits:=hK.bits _ _ _ _ _ _ _ _ hc hd0 hq0;rw [hp] at hf;have hat:xW es.toList 0 (some p)=some (p,es[p].val):=by simp [xW,he0]
    rw [hat] at hf;have hkt:(Instr.keyThatStays es[p].key (bk ak c)).run P w = .ok (bk ak c) w:=by
      simp only [hk0,Instr.keyThatStays,hbits,if_true,Sem.run_pure]
    have hrun:(execOp a.eval ⟨some d,.mapEntry t X Y,ty,pos,af,g⟩).run P w = .ok (.value (.tuple #[es[p].val,.int .i64 es[p].born])) { w with heap:=w.heap.setIfInBounds b (.map (es.modify p fun m=>{ m with key:=bk ak c }) clock) }:=by
      have h5:(Instr.mapEntry t (.map (some b)) (bk ak c)).run P w = .ok (.tuple #[es[p].val,.int .i64 es[p].born]) { w with heap:=w.heap.setIfInBounds b (.map (es.modify p fun m=>{ m with key:=bk ak c }) clock) }:=by
        simp only [Instr.mapEntry,Sem.run_bind,run_underlying (mU ht),Result.andThen_ok,vj hr,hch,hf,hkt,BO _ hr,Sem.run_pure,goInt,he0,iY,xf]
      simp only [execOp,hS.ev hX,hS.ev hY,Sem.run_bind,h5,Result.andThen_ok,Sem.run_pure]
    refine wV hrun (k es[p].val (es.modify p fun m=>{ m with key:=bk ak c }) clock es[p].born _ _ ((qc hr).mono fun j hj=>(cR hj).symm) ?_);refine St.put ?_ hd _;refine (hS.fact (L4 RK ak RV av q _ clock xs key es[p].born) ?_).turn hi (qc hr) (r':=.obj b (.map (es.modify p fun m=>{ m with key:=bk ak c }) clock)) (pX hr).1 fun j hj=>.inl hj;refine⟨x0.2,p,{ es[p] with key:=bk ak c },⟨by rw [g2]; simp [hm.1],fun y e x he hx=>?_⟩,hB.modify p _ fun _=>rfl,by rw [ud,if_pos rfl,he0]; rfl,rfl,fun y=>by rw [g2,g2,List.set_set]⟩;obtain⟨m0,h1,h2⟩:=vq he;rw [g2,qd] at hx;by_cases hz:p=y
    · subst hz;rw [if_pos rfl,if_pos hpx] at hx;simp only [cS] at hx;subst hx;rw [if_pos rfl] at h2;rw [he0] at h1;obtain rfl:=cR h1;subst h2;exact⟨⟨c,hc,rfl⟩,cv0,hcv0,hv0⟩
    · rw [if_neg hz] at hx h2;subst h2;exact hm.2 y _ x h1 hx
theorem Fy {t ty:TypeId} {X Y Z:Operand} {key:κ} {s:Int} {cv:bh} {val:ν} (hS:St W M T n G D F a w) (i:Nat) (hi:D[i]? = some (.obj b (.map es clock))) (j:Nat) (hj:F[j]? = some (L4 RK ak RV av q es clock xs key s)) (hv:RV.rel (dT T D) w cv val) (hX:ev G X=some (.map (some b))) (hY:ev G Y=some (.int .i64 s)) (hZ:ev G Z=some (bk av cv))
    (k:∀ es' w',Kt (fun j=>j=b) w w'→St W M T n G (D.set i (.obj b (.map es' clock))) (zU es' clock::pq RK ak RV av es' (d9 q key val xs)::F) a w'→K a w'):rI P ⟨none,.entryStore t X Y Z,ty,pos,af,g⟩ a w K:=by
  have hr:w.heap[b]? = some (.map es clock):=hS.own _ (aG hi);obtain⟨u,p,m0,hm,hB,hm0,rfl,hset'⟩:(L4 RK ak RV av q es clock xs key s).p (dT T D) w:=hS.get j hj;have hfi:=hB.find hm0;have hrun:(execOp a.eval ⟨none,.entryStore t X Y Z,ty,pos,af,g⟩).run P w = .ok .skip { w with heap:=w.heap.setIfInBounds b (.map (es.modify p fun m=>{ m with val:=bk av cv }) clock) }:=by
    have h5:(Instr.entryStore t (.map (some b)) (.int .i64 (m0.born:Int)) (bk av cv)).run P w = .ok () { w with heap:=w.heap.setIfInBounds b (.map (es.modify p fun m=>{ m with val:=bk av cv }) clock) }:=by
      simp only [Instr.entryStore,Sem.run_bind,vj hr,Result.andThen_ok,asInt,asIntOf,Sem.run_pure,hfi,BO _ hr]
    simp only [execOp,hS.ev hX,hS.ev hY,hS.ev hZ,Sem.run_bind,h5,Result.andThen_ok,Sem.run_pure]
  refine CM hrun (k (es.modify p fun m=>{ m with val:=bk av cv }) _ ((qc hr).mono fun j hj=>(cR hj).symm) ?_);refine ((hS.fact (pq RK ak RV av (es.modify p fun m=>{ m with val:=bk av cv }) (d9 q key val xs)) ?_).fact (zU (es.modify p fun m=>{ m with val:=bk av cv }) clock) (hB.modify p _ fun _=>rfl)).turn hi (qc hr) (r':=.obj b (.map (es.modify p fun m=>{ m with val:=bk av cv }) clock)) (pX hr).1 fun j hj=>.inl hj;rw [← hset' val];refine⟨by simp [hm.1],fun y e x he hx=>?_⟩;obtain⟨m1,h1,h2⟩:=vq he;rw [qd] at hx;by_cases hz:p=y
  · subst hz;have hpx:p<(d9 q key u xs).length:=by rw [← hm.1]; exact (uk.1 h1).1
    rw [if_pos rfl,if_pos hpx] at hx;simp only [cS] at hx;subst hx;rw [if_pos rfl] at h2;subst h2;obtain⟨⟨d,hd,hk⟩,_⟩:=hm.2 p m1 _ h1 (bq hpx);have hkk:(d9 q key u xs)[p].1=key:=by
      have h6:=hset' u;have h7:=congrArg (fun l=>l[p]?) h6;simp only [qd,if_true,hpx,bq hpx,cS] at h7;rw [← h7]
    exact⟨⟨d,by rw [hkk] at hd; exact hd,hk⟩,cv,hv,rfl⟩
  · rw [if_neg hz] at hx h2;subst h2;exact hm.2 y _ x h1 hx
end
end
section
open Go.RowKit
section
variable {P:Program} {a:Act} {w:World} {Q:Exit→Act→World→Prop}
theorem zx {x:Code} (J:Act→World→Prop) (h1:x.wp P (Exit.then J Q) a w) (h2:∀ a w,J a w→Q .normal a w):x.wp P Q a w :=
 wp_mono h1 fun e a w h=>by cases e <;> first | exact h2 a w h | exact h
theorem Ab {fn:Func} {R:Ending→World→Prop} (h:bodyPost P fn R .ret a w):bodyPost P fn R .normal a w:=h
end
section
variable {κ ν:Type} {P:Program} {W:World} {M T E:Nat→Prop} {n:Nat} {G G':List (Nat×Value)} {D D':List cz} {F F':List bQ} {a:Act} {w w':World} {K:Act→World→Prop}
variable {kt et:TypeId} {RK:aS κ} {ak:Bool} {RV:aS ν} {av:Bool} {q:κ→κ→Bool} {b r ck:Nat} {es:Array MapEntry} {seen:Array Nat} {xs:List (κ×ν)}
end
end
section
open Go.RowKit
section
variable {P:Program} {W:World} {M T:Nat→Prop} {n d j t:Nat} {G:List (Nat×Value)} {D:List cz} {F:List bQ} {a:Act} {w:World} {ops:Array Oper} {Q:Exit→Act→World→Prop} {rest:List Oper} {o:Oper} {v:Value} {x y:Operand} {ty tt t':TypeId} {pos:String} {af:Array Edge} {want c:Bool} {id:Nat} {l:List Oper} {z:Code}
theorem qy (hS:St W M T n G D F a w) (h:Ye P o a No w v) (k:∀ a,St W M T n ((d,v)::G) D F a w→wpList P ops Q rest a w) (hg:o.guard=none:=by rfl) (hd:o.dst=some d:=by rfl) (hn:Nat.blt d n=true:=by rfl):wpList P ops Q (o::rest) a w:=wy hS h hg hd hn k
theorem qg (hS:St W M T n G D F a w) (hc:c=want) (h:Ye P o a No w v) (k:∀ a,St W M T n ((d,v)::G) D F a w→wpList P ops Q rest a w) (hg:o.guard=some (j,want):=by rfl) (hj:(ops[j]?).bind (·.dst)=some t:=by rfl) (ht:lk G t=some (.bool c):=by rfl) (hd:o.dst=some d:=by rfl) (hn:Nat.blt d n=true:=by rfl):wpList P ops Q (o::rest) a w:=wg hS hg hj ht hc (ky hS h hd hn k)
theorem qm (hS:St W M T n G D F a w) (k:∀ a,St W M T n ((d,v)::G) D F a w→wpList P ops Q rest a w) (hx:ev G x=some v:=by rfl) (hn:Nat.blt d n=true:=by rfl):wpList P ops Q (⟨some d,.move x,ty,pos,af,none⟩::rest) a w:=wy hS (HV hS hx) rfl rfl hn k
theorem qa (hS:St W M T n G D F a w) (k:∀ a,St W M T n ((d,v)::G) D F a w→wpList P ops Q rest a w) (hx:ev G x=some v:=by rfl) (hn:Nat.blt d n=true:=by rfl):wpList P ops Q (⟨some d,.assign x,ty,pos,af,none⟩::rest) a w:=wy hS (De hS hx) rfl rfl hn k
theorem rq (h:∀ K:Act→World→Prop,(∀ a w,z.wp P Q a w→K a w)→wpList P l.toArray (Exit.then K Q) l a w):(Code.seq (Code.region id l.toArray false) z).wp P Q a w:=wp_seq_k fun K hK=>DS (h K hK)
theorem rz (h:Q .normal a w):wpList P ops Q [] a w:=wpList_nil h
end
end
section
open Go.RowKit
variable {pos:String} {af:Array Edge} {g:Option (Nat×Bool)}
section
variable {α:Type} {R:aS α} {P:Program} {W:World} {M T E:Nat→Prop} {n:Nat} {G:List (Nat×Value)} {D rs:List cz} {F:List bQ} {a:Act} {w:World} {K:Act→World→Prop} {xs ys:List α} {i:Int} {x:α} {cs cl:bh}
theorem HS {d:Option Nat} {X:Operand} {t e e':TypeId} {ty:TypeId} {v:Value} (hS:St W M T n G D F a w) (ht:mh P t=some e) (hx:ev G X=some v) (j:Nat) (hj:D[j]? = some (.own v e' R.size cl)) (p:Nat) (hp:F[p]? = some (ao (HR R) cl (fi xs i cs))):Ye P ⟨d,.call { callee:=.builtin .len,args:=#[X],argTypes:=#[t] },ty,pos,af,g⟩ a E w (.int .i64 xs.length):=by
  have h:=HT (R:=HR R) (xs:=fi xs i cs) (d:=d) (ty:=ty) (pos:=pos) (af:=af) (g:=g) (E:=E) hS ht hx j hj p hp;rw [vX] at h;exact h
theorem Ii {e e' t:TypeId} {v:Value} {lo hi:Int} {ag:Bool} (hS:St W M T n G D F a w) (ht:mh P t=some e) (he:oz P e=some (ag,R.size)) (q:Nat) (hq:D[q]? = some (.own v e' R.size cl)) (j:Nat) (hj:F[j]? = some (ao (HR R) cl (fi xs i cs))) (hg:qw xs lo hi=some ys) :
    ∃ v',(∀ (T:Nat→Prop) (w:World),aD R T w v xs→aD R T w v' ys)∧(∀ {E:Nat→Prop} {d:Option Nat} {ty:TypeId} {X:Operand} {olo ohi:Option Operand} {pos:String} {af:Array Edge} {g:Option (Nat×Bool)} {k1 k2:IntKind},ev G X=some v→((∃ x,olo=some x∧ev G x=some (.int k1 lo))∨(olo=none∧lo=0))→((∃ x,ohi=some x∧ev G x=some (.int k2 hi))∨(ohi=none∧hi=xs.length))→Ye P ⟨d,.slice t X olo ohi none,ty,pos,af,g⟩ a E w v'):=by
  obtain⟨q1,q2,q3,rfl⟩:=qO hg;obtain⟨A,c,hv,h1,h2,hS'⟩:=Ja (R:=HR R) (xs:=fi xs i cs) (lo:=lo.toNat) (hi:=hi.toNat) hS q hq j hj (by omega) (by rw [vX]; omega);rw [vX] at hv h1;refine⟨_,fun T w h=>?_,fun hX hlo hhi=>Jq hS ht he q1 q2 q3 h1 hv hX hlo hhi⟩;subst hv;refine h.cut (by omega) (by omega) _ (fun hlt b o hA=>?_);rw [if_neg (by omega),hA];simp [mm,HR]
theorem GJ {d:Nat} {t e e' ty:TypeId} {X Y:Operand} {v:Value} {k:IntKind} {ag:Bool} (hS:St W M T n G D F a w) (ht:mh P t=some e) (he:oz P e=some (ag,R.size)) (hX:ev G X=some v) (hY:ev G Y=some (.int k i)) (q:Nat) (hq:D[q]? = some (.own v e' R.size cl)) (j:Nat) (hj:F[j]? = some (ao (HR R) cl (fi xs i cs))) (hg:bg xs i=some x) (hn:Nat.blt d n=true)
    (K':∀ b o p,H1 v b o R.size i p→(∀ k u,cs[k]? = some u→cl[p+k]? = some u)→∀ a,St W M T n ((d,.pointer (some ⟨b,o,none⟩))::G) D F a w→K a w):rI P ⟨some d,.indexAddr t X Y,ty,pos,af,g⟩ a w K :=
  cU (R:=HR R) hS ht he hX hY q hq j hj (uo hg cs) hn fun b o p c hr ho hc=>by
    obtain⟨rfl,_,_⟩:=hr;exact K' b o p ho hc
theorem oJ {t ty e:TypeId} {X Y:Operand} {ag:Bool} {z b o k p:Nat} {v u:Value} {us:bh} (hS:St W M T n G D F a w) (hX:ev G X=some (.pointer (some ⟨b,o+k,none⟩))) (hY:ev G Y=some u) (hu:u.cells.toList=us) (ht:oz P t=some (ag,z)) (q:Nat) (hq:D[q]? = some (.own v e R.size cl)) (j:Nat) (hj:F[j]? = some (ao (HR R) cl (fi xs i cs))) (ho:H1 v b o R.size i p) (hg:bg xs i=some x)
    (hz:us.length=z) (hl:Nat.ble (k+z) cs.length=true) (hone:∀ y∈us,y.oneCell'=true)
    (K':∀ cl' w',Kt (fun j=>v.ownBlock=some j) w w'→St W M T n G (D.set q (.own v e R.size cl')) (ao (HR R) cl' (fi xs i (mL cs k us))::F) a w'→K a w'):rI P ⟨none,.store t X Y,ty,pos,af,g⟩ a w K :=
  GK hS hX hY hu ht q hq j hj ho hg hz hl (fun y hy=>by
    have hr:(HR R).rel (dT T D) w cs (Sum.inl cs):=CG (hS.get j hj) hg;unfold mL at hy;simp only [dc] at hy;rcases hy with (hy | hy) | hy
    · exact hr.2.2 y (tx hy)
    · exact hone y hy
    · exact hr.2.2 y (B0 hy)) K'
theorem St.closeHs (hS:St W M T n G D F a w) (j:Nat) (hj:F[j]? = some (ao (HR R) cl (fi xs i cs))) (hg:bg xs i=some x) (hr:R.rel (dT T D) w cs x):St W M T n G D (ao R cl xs::F) a w:=by
  have h:=hS.closeH j hj hr;rw [Hw hg] at h;exact h
def yS {α:Type} (p:List α) (cs:bh):List (bh ⊕ α):=p.map Sum.inr++[Sum.inl cs]
theorem AJ {p:List α} (h:i.toNat=p.length):fi (p++[x]) i cs=yS p cs:=by
  unfold fi yS;rw [h,sK,tj _ _ (by simp)];simp
theorem Ha {v:Value} {e:TypeId} (hS:St W M T n G D F a w) (q:Nat) (hq:D[q]? = some (.own v e R.size cl)) (j:Nat) (hj:F[j]? = some (ao R cl xs)):xs.length≤maxLen:=by
  obtain⟨h1,h2⟩:=hS.own _ (aG hq);have h3:aB R (dT T D) w cl xs:=hS.get j hj;obtain⟨A,m,c,rfl,h4,h5,h6,_⟩:=h1.form h2;have:m=xs.length:=xG h2 (h4.symm.trans h3.1);omega
theorem GQ {p:List α} {x e:α} (hb:p.length≤maxLen) (h:bg (p++[x]) (IntKind.i64.wrap (((p++[x]).length:Int)-1))=some e):x=e∧(IntKind.i64.wrap (((p++[x]).length:Int)-1)).toNat=p.length:=by
  obtain⟨h1,h2,h3⟩:=gw h;have hl:(p++[x]).length=p.length+1:=by simp
  unfold maxLen at hb;have hw:IntKind.i64.wrap (((p++[x]).length:Int)-1)=p.length:=by rw [IntKind.wrap_i64,hl]; omega
  rw [hw] at h3 ⊢;refine⟨?_,by simp⟩;simpa using h3
theorem St.closeLast {p:List α} (hS:St W M T n G D F a w) (j:Nat) (hj:F[j]? = some (ao (HR R) cl (yS p cs))) (hr:R.rel (dT T D) w cs x):St W M T n G D (ao R cl (p++[x])::F) a w:=by
  have h:=hS.closeH (R:=R) (xs:=p++[x]) (i:=(p.length:Int)) (cs:=cs) j (by rw [AJ (by simp)]; exact hj) hr;rw [show (p++[x]).set ((p.length:Int)).toNat x=p++[x] by simp] at h;exact h
end
section
variable {α:Type} {R:aS α} {P:Program} {W:World} {M T E:Nat→Prop} {n:Nat} {G:List (Nat×Value)} {D rs:List cz} {F:List bQ} {a:Act} {w:World} {K:Act→World→Prop} {xs ys zs:List α} {v0 v1 v2:Value}
end
section
variable {W:World} {M T:Nat→Prop} {n:Nat} {G G2:List (Nat×Value)} {D rs:List cz} {F F2 F0:List bQ} {a:Act} {w:World}
def pr (W:World) (M:Nat→Prop) (rs:List cz) (F0:List bQ):bQ :=
  ⟨fun T w=>(∀ r∈rs,r.ok w)∧(∀ r∈rs,∀ k,r.dom k→¬ T k∧(M k∨W.heap.size≤k))∧(rs.Pairwise fun (r s:cz)=>∀ (k:Nat),r.dom k→¬ s.dom k)∧∀ f∈F0,f.p (dT T rs) w,
   fun h k n=>⟨fun r hr=>cz.keep (h.1 r hr) fun j hj=>k.block j (cz.lt (h.1 r hr) j hj) (h.2.1 r hr j hj).1,
     fun r hr j hj=>⟨fun hT=>by
       rcases n j hT with h1 | h1
       · exact (h.2.1 r hr j hj).1 h1
       · have:=cz.lt (h.1 r hr) j hj; omega,(h.2.1 r hr j hj).2⟩,h.2.2.1,
     fun f hf=>f.keep (h.2.2.2 f hf) (k.mono fun j hj=>.inl hj) fun j hj=>by
       rcases hj with hj | hj
       · rcases n j hj with h1 | h1
         · exact .inl (.inl h1)
         · exact .inr h1
       · exact .inl (.inr hj)⟩⟩
theorem St.snap (hS:St W M T n G D F2 a w) (hY:St W M T n G2 (rs++D) F a w):St W M T n G D (pr W M rs F::F2) a w :=
  hS.fact _ ⟨fun r hr=>hY.own r (me _ hr),fun r hr k hk=>⟨by
      rintro (hT | ⟨s,hs,hT⟩)
      · exact (hY.free r (me _ hr) k hk).1 hT
      · exact (oF.1 hY.apart).2.2 r hr s hs k hk hT,(hY.free r (me _ hr) k hk).2⟩,(oF.1 hY.apart).1,
    fun f hf=>f.keep (hY.facts f hf) (ai _ _) fun k hk=>.inl (by
      rcases hk with (hk | ⟨s,hs,hk⟩) | ⟨r,hr,hk⟩
      · exact .inl hk
      · exact .inr ⟨s,tw _ hs,hk⟩
      · exact .inr ⟨r,me _ hr,hk⟩)⟩
theorem St.thaw (hS:St W M T n G D F a w) (i:Nat) (hi:F[i]? = some (pr W M rs F0)):St W M T n G (rs++D) F0 a w:=by
  obtain⟨h1,h2,h3,h4⟩:=(show (pr W M rs F0).p _ _ from hS.get i hi);refine⟨hS.size,hS.defers,hS.slots,hS.base,fun r hr=>?_,fun r hr k hk=>?_,oF.2 ⟨h3,hS.apart,fun r hr s hs k hk hk2=>(h2 r hr k hk).1 (.inr ⟨s,hs,hk2⟩)⟩,fun f hf=>f.keep (h4 f hf) (ai _ _) fun k hk=>.inl ?_,hS.tlt⟩
  · rcases dc.1 hr with hr | hr
    · exact h1 r hr
    · exact hS.own r hr
  · rcases dc.1 hr with hr | hr
    · exact⟨fun hT=>(h2 r hr k hk).1 (.inl hT),(h2 r hr k hk).2⟩
    · exact hS.free r hr k hk
  · rcases hk with hk | ⟨s,hs,hk⟩
    · exact .inl (.inl hk)
    · rcases dc.1 hs with hs | hs
      · exact .inr ⟨s,hs,hk⟩
      · exact .inl (.inr ⟨s,hs,hk⟩)
end
end
section
open Go.RowKit
structure ah where
  Kind:Int
  Text:ByteArray
def ac:aS ah where
  size:=2
  rel:=fun _ _ cs x=>cs=[.int .i64 x.Kind,.string x.Text]
  len:=by rintro _ _ _ _ rfl; rfl
  one:=by rintro _ _ _ _ rfl; exact (oc rfl (oc rfl on))
  keep:=fun h _ _=>h
structure ab where
  Key:ah
  Value:ByteArray
  Reads:(List ah)
  Changed:Int
  Verified:Int
  Cost:Int
  Dirty:Bool
def aa:aS ab where
  size:=8
  rel:=fun T w cs x=>∃ v1,cs=[.int .i64 x.Key.Kind,.string x.Key.Text,.string x.Value,v1,.int .i64 x.Changed,.int .i64 x.Verified,.int .i64 x.Cost,.bool x.Dirty]∧aD ac T w v1 x.Reads
  len:=by rintro _ _ _ _ ⟨v1,rfl,hv1⟩; rfl
  one:=by rintro _ _ _ _ ⟨v1,rfl,hv1⟩; exact (oc rfl (oc rfl (oc rfl (oc hv1.one (oc rfl (oc rfl (oc rfl (oc rfl on))))))))
  keep:=by rintro _ _ _ _ _ _ ⟨v1,rfl,hv1⟩ k n; exact⟨v1,rfl,hv1.keep k n⟩
structure aZ where
  Key:ah
  Value:ByteArray
  Changed:Int
def ad:aS aZ where
  size:=4
  rel:=fun _ _ cs x=>cs=[.int .i64 x.Key.Kind,.string x.Key.Text,.string x.Value,.int .i64 x.Changed]
  len:=by rintro _ _ _ _ rfl; rfl
  one:=by rintro _ _ _ _ rfl; exact (oc rfl (oc rfl (oc rfl (oc rfl on))))
  keep:=fun h _ _=>h
structure am where
  Revision:Int
  Inputs:(List aZ)
  Records:(List ab)
def H2:aS am where
  size:=3
  rel:=fun T w cs x=>∃ v1 v2,cs=[.int .i64 x.Revision,v1,v2]∧aD ad T w v1 x.Inputs∧aD aa T w v2 x.Records
  len:=by rintro _ _ _ _ ⟨v1,v2,rfl,hv1,hv2⟩; rfl
  one:=by rintro _ _ _ _ ⟨v1,v2,rfl,hv1,hv2⟩; exact (oc rfl (oc hv1.one (oc hv2.one on)))
  keep:=by rintro _ _ _ _ _ _ ⟨v1,v2,rfl,hv1,hv2⟩ k n; exact⟨v1,v2,rfl,hv1.keep k n,hv2.keep k n⟩
theorem Me:aU aQ 104=true:=by kernel_rfl
theorem Gg:aU aQ 105=true:=by kernel_rfl
theorem JA:aU aQ 106=true:=by kernel_rfl
theorem Mf:aU aQ 107=true:=by kernel_rfl
theorem Ep:aU aQ 111=true:=by kernel_rfl
theorem Ml:aU aQ 127=true:=by kernel_rfl
theorem Mm:aU aQ 128=true:=by kernel_rfl
theorem Mn:aU aQ 129=true:=by kernel_rfl
theorem JH:aU aQ 130=true:=by kernel_rfl
theorem Mo:aU aQ 131=true:=by kernel_rfl
theorem JI:aU aQ 132=true:=by kernel_rfl
theorem Mv:aU aQ 147=true:=by kernel_rfl
theorem Mw:aU aQ 148=true:=by kernel_rfl
theorem Mx:aU aQ 149=true:=by kernel_rfl
theorem MG:aU aQ 40=true:=by kernel_rfl
theorem MH:aU aQ 43=true:=by kernel_rfl
theorem Kn:aU aQ 44=true:=by kernel_rfl
theorem Ko:aU aQ 45=true:=by kernel_rfl
theorem MK:aU aQ 66=true:=by kernel_rfl
theorem ML:aU aQ 70=true:=by kernel_rfl
theorem N7:aU aQ 72=true:=by kernel_rfl
theorem N8:aU aQ 73=true:=by kernel_rfl
theorem N9:aU aQ 74=true:=by kernel_rfl
theorem Oa:aU aQ 75=true:=by kernel_rfl
theorem Ob:aU aQ 76=true:=by kernel_rfl
theorem MM:aU aQ 77=true:=by kernel_rfl
theorem Ku:aU aQ 79=true:=by kernel_rfl
theorem MN:aU aQ 81=true:=by kernel_rfl
theorem Bn:Cd aQ 22=some (75,4,48):=by kernel_rfl
theorem rJ:Cd aQ 23=some (33,8,96):=by kernel_rfl
theorem Fs:Cd aQ 26=some (3,1,8):=by kernel_rfl
theorem gf:Cd aQ 27=some (31,2,24):=by kernel_rfl
theorem Kz:fe aQ 25 0=some 0:=by kernel_rfl
theorem KA:fe aQ 25 1=some 1:=by kernel_rfl
theorem KB:fe aQ 25 2=some 2:=by kernel_rfl
theorem KC:fe aQ 31 0=some 0:=by kernel_rfl
theorem KD:fe aQ 31 1=some 1:=by kernel_rfl
theorem KE:fe aQ 33 0=some 0:=by kernel_rfl
theorem KF:fe aQ 33 1=some 2:=by kernel_rfl
theorem KG:fe aQ 33 2=some 3:=by kernel_rfl
theorem KH:fe aQ 33 3=some 4:=by kernel_rfl
theorem KI:fe aQ 33 4=some 5:=by kernel_rfl
theorem KJ:fe aQ 33 5=some 6:=by kernel_rfl
theorem KK:fe aQ 33 6=some 7:=by kernel_rfl
theorem KN:fe aQ 75 0=some 0:=by kernel_rfl
theorem KO:fe aQ 75 1=some 2:=by kernel_rfl
theorem KP:fe aQ 75 2=some 3:=by kernel_rfl
theorem MW:Tryz.prog.underlying 180=some (.interface (Tryz.prog.methodsAt 180)):=by kernel_rfl
theorem mixed:Tryz.prog.follows .mixedOrders=true:=by kernel_rfl
theorem Ar:mh aQ 22=some 75:=by kernel_rfl
theorem dM:mh aQ 23=some 33:=by kernel_rfl
theorem DW:mh aQ 26=some 3:=by kernel_rfl
theorem mM:mh aQ 27=some 31:=by kernel_rfl
theorem OM:oz aQ 22=some (false,1):=by kernel_rfl
theorem LP:oz aQ 23=some (false,1):=by kernel_rfl
theorem gK:oz aQ 25=some (true,3):=by kernel_rfl
theorem BS:oz aQ 27=some (false,1):=by kernel_rfl
theorem zB:oz aQ 3=some (false,1):=by kernel_rfl
theorem e7:oz aQ 31=some (true,2):=by kernel_rfl
theorem bZ:oz aQ 33=some (true,8):=by kernel_rfl
theorem LQ:oz aQ 4=some (false,1):=by kernel_rfl
theorem As:oz aQ 75=some (true,4):=by kernel_rfl
theorem JZ:oz aQ 9=some (false,1):=by kernel_rfl
theorem i8:kI aQ 25=some [.int .i64 0,.slice none 0 0,.slice none 0 0]:=by kernel_rfl
theorem L1:kI aQ 3=some [.int .i64 0]:=by kernel_rfl
theorem dq:kI aQ 33=some [.int .i64 0,.string cr,.string cr,.slice none 0 0,.int .i64 0,.int .i64 0,.int .i64 0,.bool false]:=by kernel_rfl
theorem xU:kI aQ 75=some [.int .i64 0,.string cr,.string cr,.int .i64 0]:=by kernel_rfl
end
section
open Go.RowKit
structure aW where
  L:(List Int)
  At:Int
structure dZ where
  Key:ah
  Value:ByteArray
def bm:aS dZ where
  size:=3
  rel:=fun _ _ cs x=>cs=[.int .i64 x.Key.Kind,.string x.Key.Text,.string x.Value]
  len:=by rintro _ _ _ _ rfl; rfl
  one:=by rintro _ _ _ _ rfl; exact (oc rfl (oc rfl (oc rfl on)))
  keep:=fun h _ _=>h
structure dd where
  Cell:Bool
  Pick:Bool
  N:Int
  Else:Int
def eU:aS dd where
  size:=4
  rel:=fun _ _ cs x=>cs=[.bool x.Cell,.bool x.Pick,.int .i64 x.N,.int .i64 x.Else]
  len:=by rintro _ _ _ _ rfl; rfl
  one:=by rintro _ _ _ _ rfl; exact (oc rfl (oc rfl (oc rfl (oc rfl on))))
  keep:=fun h _ _=>h
structure aR where
  Ring:Bool
  Asks:(List dd)
  Final:Int
  C:Int
def aw:aS aR where
  size:=4
  rel:=fun T w cs x=>∃ v1,cs=[.bool x.Ring,v1,.int .i64 x.Final,.int .i64 x.C]∧aD eU T w v1 x.Asks
  len:=by rintro _ _ _ _ ⟨v1,rfl,hv1⟩; rfl
  one:=by rintro _ _ _ _ ⟨v1,rfl,hv1⟩; exact (oc rfl (oc hv1.one (oc rfl (oc rfl on))))
  keep:=by rintro _ _ _ _ _ _ ⟨v1,rfl,hv1⟩ k n; exact⟨v1,rfl,hv1.keep k n⟩
theorem Be:aU aQ 12=true:=by kernel_rfl
theorem Gl:aU aQ 16=true:=by kernel_rfl
theorem lO:aU aQ 19=true:=by kernel_rfl
theorem MF:aU aQ 32=true:=by kernel_rfl
theorem NZ:aU aQ 54=true:=by kernel_rfl
theorem N2:aU aQ 59=true:=by kernel_rfl
theorem MO:aU aQ 85=true:=by kernel_rfl
theorem Kw:aU aQ 90=true:=by kernel_rfl
theorem Oj:aU aQ 91=true:=by kernel_rfl
theorem Gx:Cd aQ 113=some (119,4,24):=by kernel_rfl
theorem tG:Cd aQ 138=some (9,1,16):=by kernel_rfl
theorem Il:Cd aQ 36=some (115,4,48):=by kernel_rfl
theorem MT:Cd aQ 58=some (89,3,40):=by kernel_rfl
theorem Ir:fe aQ 115 0=some 0:=by kernel_rfl
theorem Is:fe aQ 115 1=some 1:=by kernel_rfl
theorem It:fe aQ 115 2=some 2:=by kernel_rfl
theorem Iu:fe aQ 115 3=some 3:=by kernel_rfl
theorem Iv:fe aQ 119 0=some 0:=by kernel_rfl
theorem Iw:fe aQ 119 1=some 1:=by kernel_rfl
theorem Ix:fe aQ 119 2=some 2:=by kernel_rfl
theorem Iy:fe aQ 119 3=some 3:=by kernel_rfl
theorem KL:fe aQ 73 0=some 0:=by kernel_rfl
theorem KM:fe aQ 73 1=some 1:=by kernel_rfl
theorem EN:Dt aQ 115=some [(0,1),(1,1),(2,1),(3,1)]:=by kernel_rfl
theorem JV:Dt aQ 119=some [(0,1),(1,1),(2,1),(3,1)]:=by kernel_rfl
theorem BH:Dt aQ 31=some [(0,1),(1,1)]:=by kernel_rfl
theorem OB:Dt aQ 73=some [(0,1),(1,1)]:=by kernel_rfl
theorem OC:Dt aQ 89=some [(0,2),(2,1)]:=by kernel_rfl
theorem Hz:mh aQ 113=some 119:=by kernel_rfl
theorem C5:mh aQ 138=some 9:=by kernel_rfl
theorem w8:mh aQ 36=some 115:=by kernel_rfl
theorem Nk:oz aQ 113=some (false,1):=by kernel_rfl
theorem rV:oz aQ 115=some (true,4):=by kernel_rfl
theorem HL:oz aQ 119=some (true,4):=by kernel_rfl
theorem ON:oz aQ 26=some (false,1):=by kernel_rfl
theorem FP:oz aQ 89=some (true,3):=by kernel_rfl
theorem tz:kI aQ 115=some [.bool false,.slice none 0 0,.int .i64 0,.int .i64 0]:=by kernel_rfl
theorem zS:kI aQ 119=some [.bool false,.bool false,.int .i64 0,.int .i64 0]:=by kernel_rfl
theorem gl:kI aQ 31=some [.int .i64 0,.string cr]:=by kernel_rfl
theorem OS:kI aQ 73=some [.slice none 0 0,.int .i64 0]:=by kernel_rfl
theorem Ed:kI aQ 89=some [.int .i64 0,.string cr,.string cr]:=by kernel_rfl
theorem Nx:kI aQ 9=some [.string cr]:=by kernel_rfl
theorem z7 {W:World} {M T E:Nat→Prop} {n:Nat} {G:List (Nat×Value)} {D:List cz} {F:List bQ} {a:Act} {w:World} {d:Option Nat} {t2:TypeId} {x y:Operand} {ty:TypeId} {pos:String} {af:Array Edge} {g:Option (Nat×Bool)} {p0 q0:Int} {p1 q1:ByteArray} (hS:St W M T n G D F a w) (hx:ev G x=some (.agg #[.int .i64 p0,.string p1])) (hy:ev G y=some (.agg #[.int .i64 q0,.string q1])):Ye aQ ⟨d,.binOp .eql 31 x y t2,ty,pos,af,g⟩ a E w (.bool (p0==q0&&p1.toList==q1.toList)) :=
  Ye.of fun w=>by
    have h1:=hS.ev hx
    have h2:=hS.ev hy
    clear hS hx hy
    simp only [execOp,h1,h2,eqGuard]
    simp [go_sem]
    (repeat' split) <;> simp_all
theorem AE {W:World} {M T E:Nat→Prop} {n:Nat} {G:List (Nat×Value)} {D:List cz} {F:List bQ} {a:Act} {w:World} {d:Option Nat} {t2:TypeId} {x y:Operand} {ty:TypeId} {pos:String} {af:Array Edge} {g:Option (Nat×Bool)} {p0 q0:Int} {p1 q1:ByteArray} (hS:St W M T n G D F a w) (hx:ev G x=some (.agg #[.int .i64 p0,.string p1])) (hy:ev G y=some (.agg #[.int .i64 q0,.string q1])):Ye aQ ⟨d,.binOp .neq 31 x y t2,ty,pos,af,g⟩ a E w (.bool (!(p0==q0&&p1.toList==q1.toList))) :=
  Ye.of fun w=>by
    have h1:=hS.ev hx
    have h2:=hS.ev hy
    clear hS hx hy
    simp only [execOp,h1,h2,eqGuard]
    simp [go_sem]
    (repeat' split) <;> simp_all
theorem MV {W:World} {M T E:Nat→Prop} {n:Nat} {G:List (Nat×Value)} {D:List cz} {F:List bQ} {a:Act} {w:World} {d:Option Nat} {t2:TypeId} {x y:Operand} {ty:TypeId} {pos:String} {af:Array Edge} {g:Option (Nat×Bool)} {p0 q0:Int} {p1 q1:ByteArray} {p2 q2:ByteArray} {p3 q3:Int} (hS:St W M T n G D F a w) (hx:ev G x=some (.agg #[.int .i64 p0,.string p1,.string p2,.int .i64 p3])) (hy:ev G y=some (.agg #[.int .i64 q0,.string q1,.string q2,.int .i64 q3])):Ye aQ ⟨d,.binOp .neq 75 x y t2,ty,pos,af,g⟩ a E w (.bool (!(p0==q0&&p1.toList==q1.toList&&p2.toList==q2.toList&&p3==q3))) :=
  Ye.of fun w=>by
    have h1:=hS.ev hx
    have h2:=hS.ev hy
    clear hS hx hy
    simp only [execOp,h1,h2,eqGuard]
    simp [go_sem]
    (repeat' split) <;> simp_all
end
section
open Go.RowKit
theorem Jy:aU aQ 101=true:=by kernel_rfl
theorem Mi:aU aQ 113=true:=by kernel_rfl
theorem Ic:aU aQ 13=true:=by kernel_rfl
theorem DF:aU aQ 35=true:=by kernel_rfl
theorem Gm:aU aQ 36=true:=by kernel_rfl
theorem yq:aU aQ 37=true:=by kernel_rfl
theorem NR:aU aQ 38=true:=by kernel_rfl
theorem yr:aU aQ 52=true:=by kernel_rfl
theorem If:aU aQ 55=true:=by kernel_rfl
theorem Kp:aU aQ 58=true:=by kernel_rfl
theorem Ih:aU aQ 67=true:=by kernel_rfl
theorem N4:aU aQ 68=true:=by kernel_rfl
theorem Og:aU aQ 84=true:=by kernel_rfl
theorem MP:aU aQ 89=true:=by kernel_rfl
theorem wN:aU aQ 95=true:=by kernel_rfl
theorem KQ:fe aQ 89 0=some 0:=by kernel_rfl
theorem KR:fe aQ 89 1=some 2:=by kernel_rfl
theorem LA:Dt aQ 75=some [(0,2),(2,1),(3,1)]:=by kernel_rfl
theorem FO:mh aQ 58=some 89:=by kernel_rfl
end
section
open Go.RowKit
structure bv where
  Key:ah
  Running:Bool
  At:Int
  Reads:(List ah)
  Answers:(List ByteArray)
def ax:aS bv where
  size:=6
  rel:=fun T w cs x=>∃ v1 v2,cs=[.int .i64 x.Key.Kind,.string x.Key.Text,.bool x.Running,.int .i64 x.At,v1,v2]∧aD ac T w v1 x.Reads∧aD aS.str T w v2 x.Answers
  len:=by rintro _ _ _ _ ⟨v1,v2,rfl,hv1,hv2⟩; rfl
  one:=by rintro _ _ _ _ ⟨v1,v2,rfl,hv1,hv2⟩; exact (oc rfl (oc rfl (oc rfl (oc rfl (oc hv1.one (oc hv2.one on))))))
  keep:=by rintro _ _ _ _ _ _ ⟨v1,v2,rfl,hv1,hv2⟩ k n; exact⟨v1,v2,rfl,hv1.keep k n,hv2.keep k n⟩
structure de where
  Rules:(List aR)
  Base:am
  Goals:(List ah)
  Stack:(List bv)
  Ran:(List ah)
structure cT where
  Member:ah
  Read:ah
def fV:aS cT where
  size:=4
  rel:=fun _ _ cs x=>cs=[.int .i64 x.Member.Kind,.string x.Member.Text,.int .i64 x.Read.Kind,.string x.Read.Text]
  len:=by rintro _ _ _ _ rfl; rfl
  one:=by rintro _ _ _ _ rfl; exact (oc rfl (oc rfl (oc rfl (oc rfl on))))
  keep:=fun h _ _=>h
theorem Gh:aU aQ 108=true:=by kernel_rfl
theorem JB:aU aQ 112=true:=by kernel_rfl
theorem Mp:aU aQ 133=true:=by kernel_rfl
theorem JJ:aU aQ 134=true:=by kernel_rfl
theorem JL:aU aQ 139=true:=by kernel_rfl
theorem JM:aU aQ 140=true:=by kernel_rfl
theorem oC:aU aQ 23=true:=by kernel_rfl
theorem Id:aU aQ 33=true:=by kernel_rfl
theorem Km:aU aQ 34=true:=by kernel_rfl
theorem N3:aU aQ 60=true:=by kernel_rfl
theorem Kq:aU aQ 61=true:=by kernel_rfl
theorem Fm:aU aQ 92=true:=by kernel_rfl
theorem Ol:aU aQ 93=true:=by kernel_rfl
theorem MQ:aU aQ 94=true:=by kernel_rfl
theorem vV:Cd aQ 120=some (150,6,88):=by kernel_rfl
theorem JQ:Cd aQ 154=some (158,4,48):=by kernel_rfl
theorem Iz:fe aQ 122 0=some 0:=by kernel_rfl
theorem IA:fe aQ 122 1=some 1:=by kernel_rfl
theorem IB:fe aQ 122 2=some 4:=by kernel_rfl
theorem IC:fe aQ 122 3=some 5:=by kernel_rfl
theorem ID:fe aQ 122 4=some 6:=by kernel_rfl
theorem Bs:fe aQ 150 3=some 4:=by kernel_rfl
theorem Bt:fe aQ 150 4=some 5:=by kernel_rfl
theorem Af:FA aQ 97=some (31,4):=by kernel_rfl
theorem Hb:Dt aQ 122=some [(0,1),(1,3),(4,1),(5,1),(6,1)]:=by kernel_rfl
theorem M6:Dt aQ 158=some [(0,2),(2,2)]:=by kernel_rfl
theorem Hd:Dt aQ 33=some [(0,2),(2,1),(3,1),(4,1),(5,1),(6,1),(7,1)]:=by kernel_rfl
theorem tY:mh aQ 120=some 150:=by kernel_rfl
theorem JY:oz aQ 120=some (false,1):=by kernel_rfl
theorem sI:oz aQ 122=some (true,7):=by kernel_rfl
theorem zA:oz aQ 138=some (false,1):=by kernel_rfl
theorem ua:oz aQ 150=some (true,6):=by kernel_rfl
theorem OO:oz aQ 36=some (false,1):=by kernel_rfl
theorem ul:kI aQ 122=some [.slice none 0 0,.int .i64 0,.slice none 0 0,.slice none 0 0,.slice none 0 0,.slice none 0 0,.slice none 0 0]:=by kernel_rfl
theorem sM:kI aQ 150=some [.int .i64 0,.string cr,.bool false,.int .i64 0,.slice none 0 0,.slice none 0 0]:=by kernel_rfl
theorem Fa:kI aQ 158=some [.int .i64 0,.string cr,.int .i64 0,.string cr]:=by kernel_rfl
theorem L3:J9 aQ 4=some (.bool false):=by kernel_rfl
def aP (a b:ah):Bool:=a.Kind==b.Kind&&a.Text.toList==b.Text.toList
theorem ei:wL aQ 31 ac true aP where
  check:=by
    rintro b T w0 w c x rfl
    show (Instr.checkKey b (Nat.succ (Nat.succ 9998)) 31 _).run aQ w=_
    generalize 9998=N
    simp [Instr.checkKey,bk,go_sem]
  eq:=by
    rintro T T2 w0 w1 w c d x y rfl rfl
    unfold aP Op.equal
    show (Op.equalIn (Nat.succ (Nat.succ 9998)) 31 _ _).run aQ w=_
    generalize 9998=N
    simp [Op.equalIn,bk,beq_toListBytes,go_sem]
    (try (repeat' split) <;> simp_all)
  now:=⟨_,Tryz.underlying31,by rintro T T2 w0 w1 c d x y rfl rfl; first | (exact .inl rfl) | (right; unfold aP; simp [bk,Instr.sameNow,beq_toListBytes])⟩
  bits:=by
    rintro T T2 w0 w1 c d x y rfl rfl h
    unfold aP at h
    show Instr.sameBits (Nat.succ (Nat.succ 9998)) _ _=_
    generalize 9998=N
    simp [bk,Instr.sameBits,beq_toListBytes] at h ⊢
    simp [h]
end
section
open Go.RowKit
variable {pos:String} {af:Array Edge} {g:Option (Nat×Bool)}
class uH (P:Program) (t:TypeId) (b:outParam Bool) (z:outParam Nat):Prop where
 h:oz P t=some (b,z)
class pU (P:Program) (s:TypeId) (f:Nat) (k:outParam Nat):Prop where
 h:fe P s f=some k
class Fc (P:Program) (t:TypeId) (e:outParam TypeId):Prop where
 h:mh P t=some e
class Ke (P:Program) (t:TypeId) (u:outParam TypeDesc):Prop where
 h:P.underlying t=some u
theorem fD {D:List bQ} {r:bQ} (h:∃ i:Nat,D[i]? = some r:=by first | exact⟨0,rfl⟩ | exact⟨1,rfl⟩ | exact⟨2,rfl⟩ | exact⟨3,rfl⟩ | exact⟨4,rfl⟩ | exact⟨5,rfl⟩ | exact⟨6,rfl⟩ | exact⟨7,rfl⟩ | exact⟨8,rfl⟩ | exact⟨9,rfl⟩ | exact⟨10,rfl⟩ | exact⟨11,rfl⟩ | exact⟨12,rfl⟩ | exact⟨13,rfl⟩ | exact⟨14,rfl⟩ | exact⟨15,rfl⟩ | exact⟨16,rfl⟩ | exact⟨17,rfl⟩ | exact⟨18,rfl⟩ | exact⟨19,rfl⟩ | exact⟨20,rfl⟩ | exact⟨21,rfl⟩ | exact⟨22,rfl⟩ | exact⟨23,rfl⟩ | exact⟨24,rfl⟩ | exact⟨25,rfl⟩ | exact⟨26,rfl⟩ | exact⟨27,rfl⟩ | exact⟨28,rfl⟩ | exact⟨29,rfl⟩):∃ i:Nat,D[i]? = some r:=h
theorem fR {D:List cz} {r:cz} (h:∃ i:Nat,D[i]? = some r:=by first | exact⟨0,rfl⟩ | exact⟨1,rfl⟩ | exact⟨2,rfl⟩ | exact⟨3,rfl⟩ | exact⟨4,rfl⟩ | exact⟨5,rfl⟩ | exact⟨6,rfl⟩ | exact⟨7,rfl⟩ | exact⟨8,rfl⟩ | exact⟨9,rfl⟩ | exact⟨10,rfl⟩ | exact⟨11,rfl⟩ | exact⟨12,rfl⟩ | exact⟨13,rfl⟩ | exact⟨14,rfl⟩ | exact⟨15,rfl⟩ | exact⟨16,rfl⟩ | exact⟨17,rfl⟩ | exact⟨18,rfl⟩ | exact⟨19,rfl⟩ | exact⟨20,rfl⟩ | exact⟨21,rfl⟩ | exact⟨22,rfl⟩ | exact⟨23,rfl⟩ | exact⟨24,rfl⟩ | exact⟨25,rfl⟩ | exact⟨26,rfl⟩ | exact⟨27,rfl⟩ | exact⟨28,rfl⟩ | exact⟨29,rfl⟩):∃ i:Nat,D[i]? = some r:=h
theorem vK (i:Nat) {D:List cz} {r:Option cz} (h:D[i]? = r):D[i]? = r:=h
theorem fI {D:List cz} {r:cz} {i:Nat} (h:D[i]? = some r:=by first | (refine vK 0 ?_; exact rfl) | (refine vK 1 ?_; exact rfl) | (refine vK 2 ?_; exact rfl) | (refine vK 3 ?_; exact rfl) | (refine vK 4 ?_; exact rfl) | (refine vK 5 ?_; exact rfl) | (refine vK 6 ?_; exact rfl) | (refine vK 7 ?_; exact rfl) | (refine vK 8 ?_; exact rfl) | (refine vK 9 ?_; exact rfl) | (refine vK 10 ?_; exact rfl) | (refine vK 11 ?_; exact rfl) | (refine vK 12 ?_; exact rfl) | (refine vK 13 ?_; exact rfl) | (refine vK 14 ?_; exact rfl) | (refine vK 15 ?_; exact rfl) | (refine vK 16 ?_; exact rfl) | (refine vK 17 ?_; exact rfl) | (refine vK 18 ?_; exact rfl) | (refine vK 19 ?_; exact rfl) | (refine vK 20 ?_; exact rfl) | (refine vK 21 ?_; exact rfl) | (refine vK 22 ?_; exact rfl) | (refine vK 23 ?_; exact rfl) | (refine vK 24 ?_; exact rfl) | (refine vK 25 ?_; exact rfl) | (refine vK 26 ?_; exact rfl) | (refine vK 27 ?_; exact rfl) | (refine vK 28 ?_; exact rfl) | (refine vK 29 ?_; exact rfl)):D[i]? = some r:=h
theorem kn {c b:Bool} (h:c=b:=by first | assumption | exact rfl | exact nt (by assumption) | exact nf (by assumption)):c=b:=h
def Tk (Z o:Nat) (cs us:bh):Prop:=(cs.drop o).take Z=us∧us.length=Z
def Cl (Z:Nat) (v:Value) (us:bh):Prop:=v.cells.toList=us∧us.length=Z
theorem Pn {o:Nat} {cs:bh} {v0:Value} (h:(cs.drop o).take 1=[v0]):Tk 1 o cs [v0]:=⟨h,rfl⟩
theorem OZ {v v0:Value} (h:v.cells.toList=[v0]):Cl 1 v [v0]:=⟨h,rfl⟩
theorem Po {o:Nat} {cs:bh} {v0 v1:Value} (h:(cs.drop o).take 2=[v0,v1]):Tk 2 o cs [v0,v1]:=⟨h,rfl⟩
theorem dR {v v0 v1:Value} (h:v.cells.toList=[v0,v1]):Cl 2 v [v0,v1]:=⟨h,rfl⟩
theorem Pp {o:Nat} {cs:bh} {v0 v1 v2:Value} (h:(cs.drop o).take 3=[v0,v1,v2]):Tk 3 o cs [v0,v1,v2]:=⟨h,rfl⟩
theorem jT {v v0 v1 v2:Value} (h:v.cells.toList=[v0,v1,v2]):Cl 3 v [v0,v1,v2]:=⟨h,rfl⟩
theorem Pq {o:Nat} {cs:bh} {v0 v1 v2 v3:Value} (h:(cs.drop o).take 4=[v0,v1,v2,v3]):Tk 4 o cs [v0,v1,v2,v3]:=⟨h,rfl⟩
theorem wO {v v0 v1 v2 v3:Value} (h:v.cells.toList=[v0,v1,v2,v3]):Cl 4 v [v0,v1,v2,v3]:=⟨h,rfl⟩
theorem Pr {o:Nat} {cs:bh} {v0 v1 v2 v3 v4:Value} (h:(cs.drop o).take 5=[v0,v1,v2,v3,v4]):Tk 5 o cs [v0,v1,v2,v3,v4]:=⟨h,rfl⟩
theorem xJ {v v0 v1 v2 v3 v4:Value} (h:v.cells.toList=[v0,v1,v2,v3,v4]):Cl 5 v [v0,v1,v2,v3,v4]:=⟨h,rfl⟩
theorem Ps {o:Nat} {cs:bh} {v0 v1 v2 v3 v4 v5:Value} (h:(cs.drop o).take 6=[v0,v1,v2,v3,v4,v5]):Tk 6 o cs [v0,v1,v2,v3,v4,v5]:=⟨h,rfl⟩
theorem vJ {v v0 v1 v2 v3 v4 v5:Value} (h:v.cells.toList=[v0,v1,v2,v3,v4,v5]):Cl 6 v [v0,v1,v2,v3,v4,v5]:=⟨h,rfl⟩
theorem Pt {o:Nat} {cs:bh} {v0 v1 v2 v3 v4 v5 v6:Value} (h:(cs.drop o).take 7=[v0,v1,v2,v3,v4,v5,v6]):Tk 7 o cs [v0,v1,v2,v3,v4,v5,v6]:=⟨h,rfl⟩
theorem xo {v v0 v1 v2 v3 v4 v5 v6:Value} (h:v.cells.toList=[v0,v1,v2,v3,v4,v5,v6]):Cl 7 v [v0,v1,v2,v3,v4,v5,v6]:=⟨h,rfl⟩
theorem Pu {o:Nat} {cs:bh} {v0 v1 v2 v3 v4 v5 v6 v7:Value} (h:(cs.drop o).take 8=[v0,v1,v2,v3,v4,v5,v6,v7]):Tk 8 o cs [v0,v1,v2,v3,v4,v5,v6,v7]:=⟨h,rfl⟩
theorem yt {v v0 v1 v2 v3 v4 v5 v6 v7:Value} (h:v.cells.toList=[v0,v1,v2,v3,v4,v5,v6,v7]):Cl 8 v [v0,v1,v2,v3,v4,v5,v6,v7]:=⟨h,rfl⟩
theorem Pv {o:Nat} {cs:bh} {v0 v1 v2 v3 v4 v5 v6 v7 v8:Value} (h:(cs.drop o).take 9=[v0,v1,v2,v3,v4,v5,v6,v7,v8]):Tk 9 o cs [v0,v1,v2,v3,v4,v5,v6,v7,v8]:=⟨h,rfl⟩
theorem Cc {v v0 v1 v2 v3 v4 v5 v6 v7 v8:Value} (h:v.cells.toList=[v0,v1,v2,v3,v4,v5,v6,v7,v8]):Cl 9 v [v0,v1,v2,v3,v4,v5,v6,v7,v8]:=⟨h,rfl⟩
theorem OJ {o:Nat} {cs:bh} {v0 v1 v2 v3 v4 v5 v6 v7 v8 v9:Value} (h:(cs.drop o).take 10=[v0,v1,v2,v3,v4,v5,v6,v7,v8,v9]):Tk 10 o cs [v0,v1,v2,v3,v4,v5,v6,v7,v8,v9]:=⟨h,rfl⟩
theorem qR {v v0 v1 v2 v3 v4 v5 v6 v7 v8 v9:Value} (h:v.cells.toList=[v0,v1,v2,v3,v4,v5,v6,v7,v8,v9]):Cl 10 v [v0,v1,v2,v3,v4,v5,v6,v7,v8,v9]:=⟨h,rfl⟩
theorem OK {o:Nat} {cs:bh} {v0 v1 v2 v3 v4 v5 v6 v7 v8 v9 v10:Value} (h:(cs.drop o).take 11=[v0,v1,v2,v3,v4,v5,v6,v7,v8,v9,v10]):Tk 11 o cs [v0,v1,v2,v3,v4,v5,v6,v7,v8,v9,v10]:=⟨h,rfl⟩
theorem Oq {v v0 v1 v2 v3 v4 v5 v6 v7 v8 v9 v10:Value} (h:v.cells.toList=[v0,v1,v2,v3,v4,v5,v6,v7,v8,v9,v10]):Cl 11 v [v0,v1,v2,v3,v4,v5,v6,v7,v8,v9,v10]:=⟨h,rfl⟩
theorem OL {o:Nat} {cs:bh} {v0 v1 v2 v3 v4 v5 v6 v7 v8 v9 v10 v11:Value} (h:(cs.drop o).take 12=[v0,v1,v2,v3,v4,v5,v6,v7,v8,v9,v10,v11]):Tk 12 o cs [v0,v1,v2,v3,v4,v5,v6,v7,v8,v9,v10,v11]:=⟨h,rfl⟩
theorem sS {v v0 v1 v2 v3 v4 v5 v6 v7 v8 v9 v10 v11:Value} (h:v.cells.toList=[v0,v1,v2,v3,v4,v5,v6,v7,v8,v9,v10,v11]):Cl 12 v [v0,v1,v2,v3,v4,v5,v6,v7,v8,v9,v10,v11]:=⟨h,rfl⟩
theorem O7 {Z o:Nat} {cs us:bh} (h:Tk Z o cs us:=by first | ((with_reducible apply Pn); exact rfl) | ((with_reducible apply Po); exact rfl) | ((with_reducible apply Pp); exact rfl) | ((with_reducible apply Pq); exact rfl) | ((with_reducible apply Pr); exact rfl) | ((with_reducible apply Ps); exact rfl) | ((with_reducible apply Pt); exact rfl) | ((with_reducible apply Pu); exact rfl) | ((with_reducible apply Pv); exact rfl) | ((with_reducible apply OJ); exact rfl) | ((with_reducible apply OK); exact rfl) | ((with_reducible apply OL); exact rfl)):Tk Z o cs us:=h
theorem Oz {W:World} {M T:Nat→Prop} {n:Nat} {G:List (Nat×Value)} {D:List cz} {F:List bQ} {v:Value} {a:Act} {w:World} {e:TypeId} {sz:Nat} {cl:bh} (hS:St W M T n G D F a w) (h:∃ i:Nat,D[i]? = some (.own v e sz cl)):v.oneCell'=true:=iD (hS.own _ (aG h.choose_spec)).1
theorem OA {W:World} {M T:Nat→Prop} {n:Nat} {G:List (Nat×Value)} {D:List cz} {F:List bQ} {v:Value} {a:Act} {w:World} {α:Type} {R:aS α} {xs:List α} (hS:St W M T n G D F a w) (h:∃ i:Nat,F[i]? = some (aK R v xs)):v.oneCell'=true:=aD.one (hS.get h.choose h.choose_spec:aD R _ _ _ _)
theorem M3 {v:Value} (h:v.oneCell'=true:=by first | exact rfl | exact Oz hS fR | exact OA hS fD):v.oneCell'=true:=h
theorem L0 {Z:Nat} {v:Value} {us:bh} (h:Cl Z v us:=by first | ((with_reducible apply OZ); exact rfl) | ((with_reducible apply dR); exact rfl) | ((with_reducible apply jT); exact rfl) | ((with_reducible apply wO); exact rfl) | ((with_reducible apply xJ); exact rfl) | ((with_reducible apply vJ); exact rfl) | ((with_reducible apply xo); exact rfl) | ((with_reducible apply yt); exact rfl) | ((with_reducible apply Cc); exact rfl) | ((with_reducible apply qR); exact rfl) | ((with_reducible apply Oq); exact rfl) | ((with_reducible apply sS); exact rfl) | ((with_reducible apply OZ); exact lb M3)):Cl Z v us:=h
theorem M2 {us:bh} (h:∀ u∈us,u.oneCell'=true:=by repeat (first | exact on | refine oc M3 ?_)):∀ u∈us,u.oneCell'=true:=h
def SQ (P:Program) (z:Code) (Q:Exit→Act→World→Prop):Exit→Act→World→Prop:=Exit.then (z.wp P Q) Q
section
variable {P:Program} {W:World} {M T:Nat→Prop} {n:Nat} {F:List bQ}
def Yv (P:Program) (W:World) (M T:Nat→Prop) (n:Nat) (G:List (Nat×Value)) (D:List cz) (F:List bQ) (E:Nat→Prop) (op:Op) (v:Value):Prop :=
 ∀ a w d ty pos af g,St W M T n G D F a w→Ye P ⟨d,op,ty,pos,af,g⟩ a E w v
section
variable {G:List (Nat×Value)} {D:List cz} {E:Nat→Prop} {x y z:Operand} {v:Value} {t t' s:TypeId}
theorem Yv.mv (hx:ev G x=some v):Yv P W M T n G D F E (.move x) v:=fun _ _ _ _ _ _ _ hS=>HV hS hx
theorem Yv.as (hx:ev G x=some v):Yv P W M T n G D F E (.assign x) v:=fun _ _ _ _ _ _ _ hS=>De hS hx
theorem Yv.bi {op:BinOp} {k:IntKind} {p q:Int} (hx:ev G x=some (.int k p)) (hy:ev G y=some (.int k q)) (hv:KZ op k p q=some v):Yv P W M T n G D F E (.binOp op t x y t') v:=fun _ _ _ _ _ _ _ hS=>Dh hS hx hy hv
theorem Yv.bs {op:BinOp} {p q:ByteArray} (hx:ev G x=some (.string p)) (hy:ev G y=some (.string q)) (hv:LM op p q=some v):Yv P W M T n G D F E (.binOp op t x y t') v:=fun _ _ _ _ _ _ _ hS=>Nu hS hx hy hv
theorem Yv.no {b:Bool} (hx:ev G x=some (.bool b)):Yv P W M T n G D F E (.unOp .not t x) (.bool !b):=fun _ _ _ _ _ _ _ hS=>Nt hS hx
theorem Yv.ng {k:IntKind} {p:Int} (hx:ev G x=some (.int k p)):Yv P W M T n G D F E (.unOp .neg t x) (.int k (k.wrap (0-p))):=fun _ _ _ _ _ _ _ hS=>Nr hS hx
theorem Yv.ex {i:Nat} {vs:Array Value} (hx:ev G x=some (.tuple vs)) (hv:vs[i]? = some v):Yv P W M T n G D F E (.extract x i) v:=fun _ _ _ _ _ _ _ hS=>OQ hS hx hv
theorem Yv.nl {p:Addr} (hx:ev G x=some (.pointer (some p))):Yv P W M T n G D F E (.nilCheck x) (.pointer (some p)):=fun _ _ _ _ _ _ _ hS=>Ns hS hx
theorem Yv.fl {f k b o:Nat} [c:pU P s f k] (hx:ev G x=some (.pointer (some ⟨b,o,none⟩))):Yv P W M T n G D F E (.fieldAddr s x f) (.pointer (some ⟨b,o+k,none⟩)):=fun _ _ _ _ _ _ _ hS=>Dg hS hx c.h
theorem Yv.pt {b:Bool} (hz:ev G z=some (.bool b)) (hb:b=true) (hx:ev G x=some v):Yv P W M T n G D F E (.pick z x y) v:=fun _ _ _ _ _ _ _ hS=>Jp hS hz hb hx
theorem Yv.pf {b:Bool} (hz:ev G z=some (.bool b)) (hb:b=false) (hy:ev G y=some v):Yv P W M T n G D F E (.pick z x y) v:=fun _ _ _ _ _ _ _ hS=>Jn hS hz hb hy
theorem Yv.cv {k k' ks:IntKind} {p:Int} [hs:Ke P s (.int ks)] [ht:Ke P t (.int k')] (hx:ev G x=some (.int k p)):Yv P W M T n G D F E (.convert s t x) (.int k' (k'.wrap p)):=fun _ _ _ _ _ _ _ hS=>LW hS hx hs.h ht.h
theorem Yv.ls {p:ByteArray} [ht:Ke P t .string] (hx:ev G x=some (.string p)):Yv P W M T n G D F E (.call { callee:=.builtin .len,args:=#[x],argTypes:=#[t] }) (.int .i64 p.size):=fun _ _ _ _ _ _ _ hS=>LX hS ht.h hx
theorem Yv.ll {e:TypeId} {α:Type} {R:aS α} {xs:List α} [ht:Fc P t e] (hx:ev G x=some v) (hF:∃ i:Nat,F[i]? = some (aK R v xs)):Yv P W M T n G D F E (.call { callee:=.builtin .len,args:=#[x],argTypes:=#[t] }) (.int .i64 xs.length):=fun _ _ _ _ _ _ _ hS=>J5 hS ht.h hx hF.choose hF.choose_spec
theorem Yv.lo {e e':TypeId} {cl:bh} {α:Type} {R:aS α} {xs:List α} [ht:Fc P t e] (hx:ev G x=some v) (hD:∃ j:Nat,D[j]? = some (.own v e' R.size cl)) (hF:∃ i:Nat,F[i]? = some (ao R cl xs)):Yv P W M T n G D F E (.call { callee:=.builtin .len,args:=#[x],argTypes:=#[t] }) (.int .i64 xs.length):=fun _ _ _ _ _ _ _ hS=>HT hS ht.h hx hD.choose hD.choose_spec hF.choose hF.choose_spec
theorem Yv.la {Z b o:Nat} {cs us:bh} {bt:TypeId} [c:uH P t true Z] (hx:ev G x=some (.pointer (some ⟨b,o,none⟩))) (hD:∃ i:Nat,D[i]? = some (.box b cs bt)) (hE:¬ E b) (hu:Tk Z o cs us):Yv P W M T n G D F E (.load t x) (.agg us.toArray):=fun _ _ _ _ _ _ _ hS=>dQ hS hx c.h hD.choose hD.choose_spec hE hu.1 hu.2 (fun h=>by cases h)
theorem Yv.l1 {b o:Nat} {cs:bh} {bt:TypeId} [c:uH P t false 1] (hx:ev G x=some (.pointer (some ⟨b,o,none⟩))) (hD:∃ i:Nat,D[i]? = some (.box b cs bt)) (hE:¬ E b) (hu:(cs.drop o).take 1=[v]):Yv P W M T n G D F E (.load t x) v:=fun _ _ _ _ _ _ _ hS=>dQ (us:=[v]) hS hx c.h hD.choose hD.choose_spec hE hu rfl (fun _=>rfl)
theorem Yv.ca {Z b o k p:Nat} {cs us:bh} [c:uH P t true Z] (hx:ev G x=some (.pointer (some ⟨b,p,none⟩))) (hF:∃ i:Nat,F[i]? = some (k9 b o cs)) (hp:o+k=p) (hE:∀ a w,St W M T n G D F a w→∀ j,E j→dT T D j∨w.heap.size≤j) (hu:Tk Z k cs us):Yv P W M T n G D F E (.load t x) (.agg us.toArray):=fun a w _ _ _ _ _ hS=>by
 subst hp;exact wI hS c.h hF.choose hF.choose_spec hx (hE a w hS) hu.1 hu.2 (fun h=>by cases h)
theorem Yv.c1 {b o k p:Nat} {cs:bh} [c:uH P t false 1] (hx:ev G x=some (.pointer (some ⟨b,p,none⟩))) (hF:∃ i:Nat,F[i]? = some (k9 b o cs)) (hp:o+k=p) (hE:∀ a w,St W M T n G D F a w→∀ j,E j→dT T D j∨w.heap.size≤j) (hu:(cs.drop k).take 1=[v]):Yv P W M T n G D F E (.load t x) v:=fun a w _ _ _ _ _ hS=>by
 subst hp;exact wI (us:=[v]) hS c.h hF.choose hF.choose_spec hx (hE a w hS) hu rfl (fun _=>rfl)
theorem O0 {ops:Array Oper} {mods:List (Nat×Tn)} {ls:Array Bool} {i k:Nat} (h:rem ops mods ls i=[]:=by first | exact rfl | kernel_rfl):¬ Eo (rem ops mods ls i) k:=by rw [h]; exact br
theorem O1 {ops:Array Oper} {mods:List (Nat×Tn)} {ls:Array Bool} {i:Nat} (h:rem ops mods ls i=[]:=by first | exact rfl | kernel_rfl):∀ a w,St W M T n G D F a w→∀ j,Eo (rem ops mods ls i) j→dT T D j∨w.heap.size≤j:=by rw [h]; exact fun _ _ _=>DJ
theorem Yv.e {d:Option Nat} {ty:TypeId} {op:Op} {a:Act} {w:World} (h:Yv P W M T n G D F E op v) (hS:St W M T n G D F a w):Ye P ⟨d,op,ty,pos,af,g⟩ a E w v:=h a w d ty pos af g hS
theorem yA {op:Op} (h:Yv P W M T n G D F E op v:=by
 first
  | ((with_reducible apply Yv.mv); exact rfl)
  | ((with_reducible apply Yv.bi); exact rfl; exact rfl; exact rfl)
  | ((with_reducible apply Yv.as); exact rfl)
  | ((with_reducible apply Yv.fl); exact rfl)
  | ((with_reducible apply Yv.l1); exact rfl; exact fR; (first | exact id | exact O0); exact rfl)
  | ((with_reducible apply Yv.la); exact rfl; exact fR; (first | exact id | exact O0); exact O7)
  | ((with_reducible apply Yv.c1); exact rfl; exact fD; (first | exact qk _ | exact rfl | exact (sJ _ _ _).symm); (first | exact (fun _ _ _ _ h=>h.elim) | exact O1); exact rfl)
  | ((with_reducible apply Yv.ca); exact rfl; exact fD; (first | exact qk _ | exact rfl | exact (sJ _ _ _).symm); (first | exact (fun _ _ _ _ h=>h.elim) | exact O1); exact O7)
  | ((with_reducible apply Yv.pt); exact rfl; exact kn; exact rfl)
  | ((with_reducible apply Yv.pf); exact rfl; exact kn; exact rfl)
  | ((with_reducible apply Yv.ex); exact rfl; exact rfl)
  | ((with_reducible apply Yv.no); exact rfl)
  | ((with_reducible apply Yv.nl); exact rfl)
  | ((with_reducible apply Yv.bs); exact rfl; exact rfl; exact rfl)
  | ((with_reducible apply Yv.ll); exact rfl; exact fD)
  | ((with_reducible apply Yv.lo); exact rfl; exact fR; exact fD)
  | ((with_reducible apply Yv.ls); exact rfl)
  | ((with_reducible apply Yv.cv); exact rfl)
  | ((with_reducible apply Yv.ng); exact rfl)):Yv P W M T n G D F E op v:=h
end
def Rn (W:World) (M T:Nat→Prop) (n:Nat) (F:List bQ) (b:Bool) (G:List (Nat×Value)) (D:List cz) (X:Act→World→Prop) (G':List (Nat×Value)) (D':List cz) (X':Act→World→Prop):Prop :=
 ∀ w,(∀ a w',(b=true→w'=w)→St W M T n G' D' F a w'→X' a w')→∀ a,St W M T n G D F a w→X a w
section
variable {b:Bool} {G G':List (Nat×Value)} {D D':List cz} {X X' K:Act→World→Prop} {Q:Exit→Act→World→Prop} {ops:Array Oper} {l:List Oper} {op:Op} {v:Value} {d j t:Nat} {ty tt:TypeId} {pos:String} {af:Array Edge} {want c:Bool} {x y z:Code} {id:Nat} {u:Operand}
theorem Rn.fin:Rn W M T n F b G D X G D X:=fun w k a hS=>k a w (fun _=>rfl) hS
theorem Rn.yv (h:Yv P W M T n G D F No op v) (hn:Nat.blt d n=true) (k:Rn W M T n F b ((d,v)::G) D (wpList P ops Q l) G' D' X'):Rn W M T n F b G D (wpList P ops Q (⟨some d,op,ty,pos,af,none⟩::l)) G' D' X' :=
 fun w K a hS=>wy hS (h a w _ _ _ _ _ hS) rfl rfl hn fun a hS=>k w K a hS
def L6 (u:Value) (want:Bool) (A B:Prop):Prop:=(∃ c,u = .bool c∧c=want∧A)∨(((∃ c,u = .bool c∧c = !want)∨u=undef)∧B)
theorem Ov {A B:Prop} (h:c=want) (k:A):L6 (.bool c) want A B:=.inl ⟨c,rfl,h,k⟩
theorem Ou {A B:Prop} (h:c = !want) (k:B):L6 (.bool c) want A B:=.inr ⟨.inl ⟨c,rfl,h⟩,k⟩
theorem Ow {A B:Prop} (k:B):L6 undef want A B:=.inr ⟨.inr rfl,k⟩
theorem D7 {o:Oper} {g:Option (Nat×Bool)} {a:Act} {w:World} {rest:List Oper} (h:wpList P ops Q ({ o with guard:=none } :: rest) a w) (hw:Region.wanted { o with guard:=g } (yielded ops a.tmps)=true):wpList P ops Q ({ o with guard:=g } :: rest) a w:=by
 unfold wpList at h ⊢;rw [if_pos hw];rw [if_pos (by simp [Region.wanted])] at h;exact h
theorem Rn.gd {uv:Value} (hj:(ops[j]?).bind (·.dst)=some t) (ht:lk G t=some uv) (hn:Nat.blt d n=true)
  (k:L6 uv want (Rn W M T n F b G D (wpList P ops Q (⟨some d,op,ty,pos,af,none⟩::l)) G' D' X') (Rn W M T n F b ((d,undef)::G) D (wpList P ops Q l) G' D' X')):Rn W M T n F b G D (wpList P ops Q (⟨some d,op,ty,pos,af,some (j,want)⟩::l)) G' D' X':=by
 intro w K a hS;rcases k with⟨c,h1,h2,k⟩|⟨h1 | h1,k⟩
 ·subst h1;exact D7 (o:=⟨some d,op,ty,pos,af,none⟩) (k w K a hS) (by rw [o0 hS rfl hj ht,h2]; simp)
 ·obtain⟨c,h1,h2⟩:=h1;subst h1;exact wn hS rfl hj ht h2 rfl hn fun a hS=>k w K a hS
 ·subst h1;exact Pw hS rfl hj ht rfl hn fun a hS=>k w K a hS
theorem Rn.st {ag:Bool} {Z bb o:Nat} {cs us:bh} {bt:TypeId} {xx yy:Operand} [ct:uH P tt ag Z] {i:Nat} (hx:ev G xx=some (.pointer (some ⟨bb,o,none⟩))) (hi:D[i]? = some (.box bb cs bt)) (hy:ev G yy=some v)
  (h1:∀ a w,St W M T n G D F a w→Cl Z v us) (h2:∀ a w,St W M T n G D F a w→∀ u∈us,u.oneCell'=true) (hl:Nat.ble (o+Z) cs.length=true) (k:Rn W M T n F false G (D.set i (.box bb (mL cs o us) bt)) (wpList P ops Q l) G' D' X'):Rn W M T n F false G D (wpList P ops Q (⟨none,.store tt xx yy,ty,pos,af,none⟩::l)) G' D' X' :=
 fun w K a hS=>wl rfl (sV hS hx hy (h1 a w hS).1 ct.h i hi (h1 a w hS).2 hl (h2 a w hS) fun w hk hS=>k w (fun a w' _ hS=>K a w' (fun h=>by cases h) hS) _ hS)
theorem aA {a:Act} {w:World} (h:x.wp P (SQ P z Q) a w):(Code.seq x z).wp P Q a w:=wp_seq h
theorem Rn.rq (hg:(l.all fun o=>o.guard.isNone)=true) (k:Rn W M T n F b G D (wpList P l.toArray (SQ P z Q) l) G' D' X'):Rn W M T n F b G D (Code.wp P (Code.seq (Code.region id l.toArray false) z) Q) G' D' X':=fun w K a hS=>wp_seq (wp_region_lit (k w K a hS))
theorem i1 {l:List Oper} {a:Act} {w:World} (h:wpList P l.toArray (SQ P z Q) l a w):(Code.seq (Code.region id l.toArray false) z).wp P Q a w:=wp_seq (wp_region_lit h)
theorem Rn.rl (k:Rn W M T n F b G D (wpList P l.toArray Q l) G' D' X'):Rn W M T n F b G D (Code.wp P (Code.region id l.toArray false) Q) G' D' X':=fun w K a hS=>wp_region_lit (k w K a hS)
theorem Rn.rz (k:Rn W M T n F b G D (Q .normal) G' D' X'):Rn W M T n F b G D (wpList P ops Q []) G' D' X':=fun w K a hS=>wpList_nil (k w K a hS)
theorem Rn.sq (k:Rn W M T n F b G D (z.wp P Q) G' D' X'):Rn W M T n F b G D (SQ P z Q .normal) G' D' X':=k
theorem Rn.th (k:Rn W M T n F b G D (K) G' D' X'):Rn W M T n F b G D (Exit.then K Q .normal) G' D' X':=k
theorem Rn.ib (k:Rn W M T n F b G D (Q .normal) G' D' X'):Rn W M T n F b G D (Exit.inBlock id Q .normal) G' D' X':=k
theorem Rn.sk (k:Rn W M T n F b G D (Q .normal) G' D' X'):Rn W M T n F b G D (Code.wp P .skip Q) G' D' X':=fun w K a hS=>wp_skip (k w K a hS)
theorem Rn.bl (k:Rn W M T n F b G D (x.wp P (Exit.inBlock id Q)) G' D' X'):Rn W M T n F b G D (Code.wp P (.block id x) Q) G' D' X':=fun w K a hS=>wp_block (k w K a hS)
theorem Rn.ct (hu:ev G u=some (.bool c)) (hc:c=true) (k:Rn W M T n F b G D (x.wp P Q) G' D' X'):Rn W M T n F b G D (Code.wp P (.cond u x y) Q) G' D' X':=fun w K a hS=>OY hS hu hc (k w K a hS)
theorem Rn.cf (hu:ev G u=some (.bool c)) (hc:c=false) (k:Rn W M T n F b G D (y.wp P Q) G' D' X'):Rn W M T n F b G D (Code.wp P (.cond u x y) Q) G' D' X':=fun w K a hS=>NM hS hu hc (k w K a hS)
theorem Rn.xt (k:Rn W M T n F b G D (Q (.exit j)) G' D' X'):Rn W M T n F b G D (Code.wp P (.exit j) Q) G' D' X':=fun w K a hS=>wp_exit (k w K a hS)
theorem Rn.rt (k:Rn W M T n F b G D (Q .ret) G' D' X'):Rn W M T n F b G D (Code.wp P .ret Q) G' D' X':=fun w K a hS=>wp_ret (k w K a hS)
theorem Rn.sqr (k:Rn W M T n F b G D (Q .ret) G' D' X'):Rn W M T n F b G D (SQ P z Q .ret) G' D' X':=k
theorem Rn.sqe (k:Rn W M T n F b G D (Q (.exit j)) G' D' X'):Rn W M T n F b G D (SQ P z Q (.exit j)) G' D' X':=k
theorem Rn.thr (k:Rn W M T n F b G D (Q .ret) G' D' X'):Rn W M T n F b G D (Exit.then K Q .ret) G' D' X':=k
theorem Rn.the (k:Rn W M T n F b G D (Q (.exit j)) G' D' X'):Rn W M T n F b G D (Exit.then K Q (.exit j)) G' D' X':=k
theorem Rn.ibr (k:Rn W M T n F b G D (Q .ret) G' D' X'):Rn W M T n F b G D (Exit.inBlock id Q .ret) G' D' X':=k
theorem Rn.ibt (h:Nat.beq j id=true) (k:Rn W M T n F b G D (Q .normal) G' D' X'):Rn W M T n F b G D (Exit.inBlock id Q (.exit j)) G' D' X':=fun w K a hS=>by
 have h2:=k w K a hS;simp only [Exit.inBlock];rw [if_pos (zR h)]; exact h2
theorem Rn.ibf (h:Nat.beq j id=false) (k:Rn W M T n F b G D (Q (.exit j)) G' D' X'):Rn W M T n F b G D (Exit.inBlock id Q (.exit j)) G' D' X':=fun w K a hS=>by
 have h2:=k w K a hS;simp only [Exit.inBlock];rw [if_neg (fun e=>by rw [e] at h; simp at h)]; exact h2
theorem Pd (h:Rn W M T n F b G D X G' D' X':=by
 repeat (first
 | ((with_reducible apply Rn.yv); exact yA; exact rfl)
 | ((with_reducible apply Rn.gd); exact rfl; exact rfl; exact rfl; (first | apply Ow | (apply Ov; exact kn; (first | ((with_reducible apply Rn.yv); exact yA; exact rfl) | ((with_reducible apply Rn.st); exact rfl; exact fI; exact rfl; exact (fun a w hS=>L0); exact (fun a w hS=>M2); exact rfl))) | (apply Ou; exact kn)))
 | ((with_reducible apply Rn.st); exact rfl; exact fI; exact rfl; exact (fun a w hS=>L0); exact (fun a w hS=>M2); exact rfl)
 | (with_reducible apply Rn.rz)
 | (with_reducible apply Rn.sq)
 | (with_reducible apply Rn.th)
 | (with_reducible apply Rn.ib)
 | (with_reducible apply Rn.sk)
 | ((with_reducible apply Rn.ct); exact rfl; exact kn)
 | ((with_reducible apply Rn.cf); exact rfl; exact kn))
 exact Rn.fin):Rn W M T n F b G D X G' D' X':=h
theorem OW (h:Rn W M T n F b G D X G' D' X':=by
 repeat (first
 | ((with_reducible apply Rn.yv); exact yA; exact rfl)
 | ((with_reducible apply Rn.gd); exact rfl; exact rfl; exact rfl; (first | apply Ow | (apply Ov; exact kn; (first | ((with_reducible apply Rn.yv); exact yA; exact rfl) | ((with_reducible apply Rn.st); exact rfl; exact fI; exact rfl; exact (fun a w hS=>L0); exact (fun a w hS=>M2); exact rfl))) | (apply Ou; exact kn)))
 | ((with_reducible apply Rn.st); exact rfl; exact fI; exact rfl; exact (fun a w hS=>L0); exact (fun a w hS=>M2); exact rfl)
 | (with_reducible apply Rn.rz)
 | ((with_reducible apply Rn.rq); exact rfl)
 | (with_reducible apply Rn.sq)
 | (with_reducible apply Rn.th)
 | (with_reducible apply Rn.ib)
 | (with_reducible apply Rn.sk)
 | (with_reducible apply Rn.bl)
 | ((with_reducible apply Rn.ct); exact rfl; exact kn)
 | ((with_reducible apply Rn.cf); exact rfl; exact kn)
 | (with_reducible apply Rn.rl)
 | (with_reducible apply Rn.rt)
 | (with_reducible apply Rn.xt)
 | (with_reducible apply Rn.sqr)
 | (with_reducible apply Rn.thr)
 | (with_reducible apply Rn.ibr)
 | (with_reducible apply Rn.sqe)
 | (with_reducible apply Rn.the)
 | ((with_reducible apply Rn.ibt); exact rfl)
 | ((with_reducible apply Rn.ibf); exact rfl))
 exact Rn.fin):Rn W M T n F b G D X G' D' X':=h
def O3 (ops:Array Oper) (listed:Array Bool) (i:Nat):Bool:=Region.free .any ops listed i&&(Region.ready .any ops listed).contains i
def Re (P:Program) (ops:Array Oper) (Q:Exit→Act→World→Prop) (mods:List (Nat×Tn)) (W:World) (M T:Nat→Prop) (n:Nat) (D:List cz) (F:List bQ) (is:List Nat) (fuel:Nat) (ls:Array Bool) (G:List (Nat×Value)) (fuel':Nat) (ls':Array Bool) (G':List (Nat×Value)):Prop :=
 ∀ a w,Region.noSelect ops=true→Qp Q→St W M T n G D F a w→(∀ a,St W M T n G' D F a w→sO P ops Q mods fuel' ls' a w)→sO P ops Q mods fuel ls a w
section
variable {mods:List (Nat×Tn)} {fuel fuel' i:Nat} {ls ls':Array Bool} {is:List Nat}
theorem Re.en:Re P ops Q mods W M T n D F [] fuel ls G fuel ls G:=fun a w _ _ hS k=>k a hS
theorem Re.va {f:Nat} (hfu:fuel=f+1) (hi:ops[i]? = some ⟨some d,op,ty,pos,af,none⟩) (h:Yv P W M T n G D F (Eo (rem ops mods ls i)) op v) (hn:Nat.blt d n=true) (hr:O3 ops ls i=true) (k:Re P ops Q mods W M T n D F is f (ls.setIfInBounds i true) ((d,v)::G) fuel' ls' G'):Re P ops Q mods W M T n D F (i::is) fuel ls G fuel' ls' G' :=
 fun a w hs hQ hS K=>hfu▸dy i hi hs (Bool.and_eq_true_iff.1 hr).1 (Bool.and_eq_true_iff.1 hr).2 rfl hQ hS (h a w _ _ _ _ _ hS) rfl rfl hn fun a hS=>k a w hs hQ hS K
theorem Re.gu {uv:Value} {f:Nat} (hfu:fuel=f+1) (hi:ops[i]? = some ⟨some d,op,ty,pos,af,some (j,want)⟩) (hj:(ops[j]?).bind (·.dst)=some t) (ht:lk G t=some uv) (hn:Nat.blt d n=true) (hr:O3 ops ls i=true)
  (k:L6 uv want (∃ v,Yv P W M T n G D F (Eo (rem ops mods ls i)) op v∧Re P ops Q mods W M T n D F is f (ls.setIfInBounds i true) ((d,v)::G) fuel' ls' G') (Re P ops Q mods W M T n D F is f (ls.setIfInBounds i true) ((d,undef)::G) fuel' ls' G')):Re P ops Q mods W M T n D F (i::is) fuel ls G fuel' ls' G':=by
 intro a w hs hQ hS K;subst hfu;have h1:=Bool.and_eq_true_iff.1 hr;rcases k with⟨c,e1,e2,v,h,k⟩|⟨e1 | e1,k⟩
 ·subst e1;exact yG i hi hs h1.1 h1.2 rfl hQ hS (h a w _ _ _ _ _ hS) rfl hj ht e2 rfl hn fun a hS=>k a w hs hQ hS K
 ·obtain⟨c,e1,e2⟩:=e1;subst e1;exact Pf i hi hs h1.1 h1.2 hQ hS rfl hj ht e2 rfl hn fun a hS=>k a w hs hQ hS K
 ·subst e1;exact Or i hi hs h1.1 h1.2 hQ hS rfl hj ht rfl hn fun a hS=>k a w hs hQ hS K
theorem gE (is:List Nat) {a:Act} {w:World} (hS:St W M T n G D F a w) (k:∀ a,St W M T n G' D F a w→sO P ops Q mods fuel' ls' a w) (h:Re P ops Q mods W M T n D F is fuel ls G fuel' ls' G':=by
 repeat (first
 | ((with_reducible apply Re.va); exact rfl; exact rfl; exact yA; exact rfl; kernel_rfl)
 | ((with_reducible apply Re.gu); exact rfl; exact rfl; exact rfl; exact rfl; exact rfl; kernel_rfl; (first | apply Ow | (apply Ov; exact kn; refine⟨_,yA,?_⟩) | (apply Ou; exact kn))))
 exact Re.en) (hs:Region.noSelect ops=true:=by kernel_rfl) (hQ:Qp Q:=by assumption):sO P ops Q mods fuel ls a w:=h a w hs hQ hS k
end
def zV (F:List bQ):List Nat→List bQ→Prop
 | _,[]=>True
 | [],_::_=>False
 | j::js,f::F'=>F[j]? = some f∧zV F js F'
theorem zV.to {F:List bQ}:∀ {js:List Nat} {F':List bQ},zV F js F'→Cj F F'
 | _,[],_=>trivial
 | [],_::_,h=>h.elim
 | j::js,f::F',h=>⟨⟨j,h.1⟩,h.2.to⟩
theorem Pm {F:List bQ}:zV F [] []:=trivial
theorem Pk {F F':List bQ} {j:Nat} {js:List Nat} {f:bQ} (h:F[j]? = some f) (k:zV F js F'):zV F (j::js) (f::F'):=⟨h,k⟩
theorem O6 {F F':List bQ} {js:List Nat} (h:zV F js F':=by repeat (first | exact Pm | (apply Pk; exact rfl))):zV F js F':=h
theorem O5:nP D [] []:=trivial
theorem O4 {i:Nat} {is:List Nat} {r:cz} (h:D[i]? = some r) (k:nP D is D'):nP D (i::is) (r::D'):=⟨h,k⟩
theorem Nf {is:List Nat} (h:nP D is D':=by repeat (first | exact O5 | (apply O4; exact rfl))):nP D is D':=h
theorem nP.app:∀ {is js:List Nat} {D0 D1:List cz},nP D is D0→nP D js D1→nP D (is++js) (D0++D1)
 | [],_,[],_,_,k=>k
 | [],_,_::_,_,h,_=>h.elim
 | _::_,_,[],_,h,_=>h.elim
 | _::_,_,_::_,_,h,k=>⟨h.1,nP.app h.2 k⟩
section
variable {F':List bQ} {a:Act} {w:World} {D0 D1:List cz} {α β:Type} {R:aS α} {R2:aS β} {xs:List α} {ys:List β} {vv v2:Value} {cl dR:bh} {e e2:TypeId}
theorem St.mt (h:St W M T n G D F a w) (is js:List Nat) (hG:Jt G G':=by repeat (first | exact trivial | refine⟨rfl,?_⟩)) (hD:nP D is D':=by exact Nf) (hF:zV F js F':=by exact O6) (hn:is.Nodup:=by decide):St W M T n G' D' F' a w:=h.meet is hn hG hD hF.to
theorem St.sl (h:St W M T n G D F a w) (is js:List Nat) (hD:nP D is D':=by exact Nf) (hF:zV F js F':=by exact O6) (hn:is.Nodup:=by decide):St W M T n [] D' F' a w:=h.meet is hn trivial hD hF.to
theorem St.rd (h:St W M T n G D F a w) (is:List Nat) (hD:nP D is D':=by exact Nf) (hn:is.Nodup:=by decide):St W M T n G D' F a w:=h.reD is hn hD
theorem St.re (h:St W M T n G D F a w) (is js:List Nat) (h0:nP D is D0:=by exact Nf) (h1:nP D js D1:=by exact Nf) (hn:(is++js).Nodup:=by decide):St W M T n G (D0++D1) F a w:=h.reD (is++js) hn (h0.app h1)
theorem St.fS (h:St W M T n G D F a w) (k:aD R (dT T D) w vv xs):St W M T n G D (aK R vv xs::F) a w:=h.fact (aK R vv xs) k
theorem St.fR (h:St W M T n G D F a w) (k:aB R (dT T D) w cl xs):St W M T n G D (ao R cl xs::F) a w:=h.fact (ao R cl xs) k
theorem St.fM {κ ν:Type} {RK:aS κ} {ak:Bool} {RV:aS ν} {av:Bool} {es:Array MapEntry} {ms:List (κ×ν)} (h:St W M T n G D F a w) (k:bK RK ak RV av (dT T D) w es ms):St W M T n G D (pq RK ak RV av es ms::F) a w:=h.fact (pq RK ak RV av es ms) k
theorem bS {w':World} (hA:∀ rs:List cz,(∀ r∈rs,r.ok w'∧∀ k,r.dom k→w.heap.size≤k)→(rs.Pairwise fun r s=>∀ k,r.dom k→¬ s.dom k)→St W M T n G (rs++D) F a w'):St W M T n G D F a w':=hA [] (fun r hr=>by cases hr) uL
theorem qe {w':World} (hA:∀ rs:List cz,(∀ r∈rs,r.ok w'∧∀ k,r.dom k→w.heap.size≤k)→(rs.Pairwise fun r s=>∀ k,r.dom k→¬ s.dom k)→St W M T n G (rs++D) F a w') (h:ip R (dT T D) w w' [.own vv e R.size cl] e vv cl xs) (h0:0<R.size:=by decide):St W M T n G ([.own vv e R.size cl]++D) (ao R cl xs::F) a w' :=
 (hA [.own vv e R.size cl] (fG ⟨h.1,h0⟩ h.2.1) (uz _)).fact (ao R cl xs) (h.2.2.keep (ai _ _) (oE _))
theorem Aw {w':World} (hA:∀ rs:List cz,(∀ r∈rs,r.ok w'∧∀ k,r.dom k→w.heap.size≤k)→(rs.Pairwise fun r s=>∀ k,r.dom k→¬ s.dom k)→St W M T n G (rs++D) F a w') (h:ip R (dT T D) w w' [.own vv e R.size cl,.own v2 e2 R2.size dR] e vv cl xs) (k:ip R2 (dT T D) w w' [.own vv e R.size cl,.own v2 e2 R2.size dR] e2 v2 dR ys) (hp:∀ k,vv.ownBlock=some k→v2.ownBlock≠some k) (h0:0<R.size:=by decide) (k0:0<R2.size:=by decide):St W M T n G ([.own vv e R.size cl,.own v2 e2 R2.size dR]++D) (ao R2 dR ys::ao R cl xs::F) a w' :=
 ((hA [.own vv e R.size cl,.own v2 e2 R2.size dR] (Md ⟨h.1,h0⟩ h.2.1 ⟨k.1,k0⟩ k.2.1) (Pi hp)).fact (ao R cl xs) (h.2.2.keep (ai _ _) (oE _))).fact (ao R2 dR ys) (k.2.2.keep (ai _ _) (oE _))
theorem Pj {is:List Nat} (h:nP D is D':=by repeat (first | exact O5 | (apply O4; exact fI))):nP D is D':=h
theorem St.mtS {is:List Nat} (h:St W M T n G D F a w) (hG:Jt G G':=by repeat (first | exact trivial | refine⟨rfl,?_⟩)) (hD:nP D is D':=by exact Pj) (hF:Cj F F':=by repeat (first | exact trivial | refine⟨fD,?_⟩)) (hn:is.Nodup:=by decide):St W M T n G' D' F' a w:=h.meet is hn hG hD hF
end
theorem lo {S R Y:Type} {u r:R} {f:Fl S R} {k:R→Option Y} {y:Y} (hM:some (Fl.out u)=some f) (hf:∀ u,f = .out u→u=r) (hk:k r=some y):k u=some y:=by
 rw [hf u (cR hM).symm]; exact hk
theorem M0 {S R Y S2:Type} {s:S2} {r:Fl S2 R} {f:Fl S (Fl S2 R)} {p:S2→Option Y} {q:R→Option Y} {y:Y} (hM:some (Fl.out (Fl.go s))=some f) (hf:∀ u,f = .out u→u=r) (hk:Fl.el r p q=some y):p s=some y:=by
 have h:=hf _ (cR hM).symm;subst h; exact hk
theorem JS {S R Y S2:Type} {s:R} {r:Fl S2 R} {f:Fl S (Fl S2 R)} {p:S2→Option Y} {q:R→Option Y} {y:Y} (hM:some (Fl.out (Fl.out s))=some f) (hf:∀ u,f = .out u→u=r) (hk:Fl.el r p q=some y):q s=some y:=by
 have h:=hf _ (cR hM).symm;subst h; exact hk
theorem cd {α:Type} {b:Bool} {x y r:α} (h:cond b x y=r):(b=true∧x=r)∨(b=false∧y=r):=by cases b <;> simp_all
theorem go {a:Act} {w:World} (hS:St W M T n G D F a w) (k:∀ a w,St W M T n G' D' F a w→X' a w) (h:Rn W M T n F false G D X G' D' X':=by exact OW):X a w:=h w (fun a w' _ hS=>k a w' hS) a hS
theorem IR {a:Act} {w:World} (hS:St W M T n G D F a w) (k:∀ a,St W M T n G' D' F a w→X' a w) (h:Rn W M T n F true G D X G' D' X':=by exact Pd):X a w:=h w (fun a w' e hS=>by cases e rfl; exact k a hS) a hS
theorem al {a:Act} {w:World} (hS:St W M T n G D F a w) (k:∀ a,St W M T n G' D' F a w→X' a w) (h:Rn W M T n F true G D X G' D' X':=by exact OW):X a w:=h w (fun a w' e hS=>by cases e rfl; exact k a hS) a hS
section
variable {a:Act} {w:World} {E:Nat→Prop} {o:Oper} {fuel:Nat} {ls:Array Bool} {mods:List (Nat×Tn)} {cs us:bh} {ag:Bool} {Z bb off:Nat} {bt e:TypeId} {xx yy X Y:Operand} {g:Option (Nat×Bool)} {args:Array Operand} {tys:Array TypeId} {f:Nat} {vs:bh} {R:Value→World→Prop} {fn:Func}
theorem en {c:Code} {W0:World} {av:bh} (hf:P.funcs[f]? = some fn) (hn:fn.ntmps=n) (hT:∀ k,T k→k<W0.heap.size) (h:∀ a,St W0 M T n (mn 0 av) [] [] a W0→c.wp P (bodyPost P fn (Mc M W0 R)) a W0) (hb:fn.body=some c:=by rfl) (hl:Nat.ble av.length n=true:=by rfl):bc P M f av W0 R:=enter hf hb T n hn hT hl h
theorem ka (hS:St W M T n G D F a w) (hz:kI P tt=some cs) (k:∀ b,w.heap.size≤b→∀ a w',Kt No w w'→St W M T n ((d,.pointer (some ⟨b,0,none⟩))::G) (.box b cs tt::D) F a w'→wpList P ops Q l a w') (hn:Nat.blt d n=true:=by rfl):wpList P ops Q (⟨some d,.alloc tt,ty,pos,af,none⟩::l) a w:=wl rfl (cm hS hz hn k)
theorem kb (hS:St W M T n G D F a w) (k:∀ b,w.heap.size≤b→∀ a w',Kt No w w'→St W M T n ((d,.pointer (some ⟨b,0,none⟩))::G) (.box b cs tt::D) F a w'→wpList P ops Q l a w') (hx:ev G X=some v:=by rfl) (hv:Cl Z v cs:=by exact L0) (hn:Nat.blt d n=true:=by rfl):wpList P ops Q (⟨some d,.box tt X,ty,pos,af,none⟩::l) a w:=wl rfl (EA hS hx hv.1 hn k)
theorem kc (hS:St W M T n G D F a w) (hf:aU P f=true) (hc:bc P No f vs w R)
  (k:∀ v w',R v w'→∀ a,Kt No w w'→(∀ rs:List cz,(∀ r∈rs,r.ok w'∧∀ k,r.dom k→w.heap.size≤k)→(rs.Pairwise fun r s=>∀ k,r.dom k→¬ s.dom k)→St W M T n ((d,v)::G) (rs++D) F a w')→wpList P ops Q l a w') (hargs:evs G args.toList=some vs:=by rfl) (hn:Nat.blt d n=true:=by rfl):wpList P ops Q (⟨some d,.call { callee:=.value (.func f),args:=args,argTypes:=tys },ty,pos,af,none⟩::l) a w:=wl rfl (be hS hf hargs hn hc k)
theorem e1 (i:Nat) (h:rI P o a w (fun a' w'=>Js mods i w w'∧sO P ops Q mods fuel (ls.setIfInBounds i true) a' w')) (hi:ops[i]? = some o:=by rfl) (hr:Region.ready .any ops ls=[i]:=by kernel_rfl) (hg:o.guard=none:=by rfl):sO P ops Q mods (fuel+1) ls a w:=ti hi hr hg h
theorem ec (i:Nat) (hS:St W M T n G D F a w) (hf:aU P f=true) (hc:bc P No f vs w R)
  (k:∀ v w',R v w'→∀ a,Kt No w w'→(∀ rs:List cz,(∀ r∈rs,r.ok w'∧∀ k,r.dom k→w.heap.size≤k)→(rs.Pairwise fun r s=>∀ k,r.dom k→¬ s.dom k)→St W M T n ((d,v)::G) (rs++D) F a w')→sO P ops Q mods fuel (ls.setIfInBounds i true) a w') (hi:ops[i]? = some ⟨some d,.call { callee:=.value (.func f),args:=args,argTypes:=tys },ty,pos,af,none⟩:=by rfl) (hr:Region.ready .any ops ls=[i]:=by kernel_rfl) (hargs:evs G args.toList=some vs:=by rfl) (hn:Nat.blt d n=true:=by rfl):sO P ops Q mods (fuel+1) ls a w :=
 ti hi hr rfl (be hS hf hargs hn hc fun v w' hR a hk hA=>⟨eS hk,k v w' hR a hk hA⟩)
theorem es (i:Nat) [ct:uH P tt ag Z] {q:Nat} (hS:St W M T n G D F a w) (k:∀ w',St W M T n G (D.set q (.box bb (mL cs off us) bt)) F a w'→sO P ops Q mods fuel (ls.setIfInBounds i true) a w') (hi:ops[i]? = some ⟨none,.store tt xx yy,ty,pos,af,none⟩:=by rfl) (hr:Region.ready .any ops ls=[i]:=by kernel_rfl) (hx:ev G xx=some (.pointer (some ⟨bb,off,none⟩)):=by rfl) (hD:D[q]? = some (.box bb cs bt):=by exact fI) (hy:ev G yy=some v:=by rfl) (h1:Cl Z v us:=by exact L0) (h2:∀ u∈us,u.oneCell'=true:=by exact M2) (hl:Nat.ble (off+Z) cs.length=true:=by rfl) (hm:vr mods i=[.blk (some bb)]:=by rfl):sO P ops Q mods (fuel+1) ls a w :=
 ti hi hr rfl (sV hS hx hy h1.1 ct.h q hD h1.2 hl h2 fun w' hk hS=>⟨jl hm hk jn,k w' hS⟩)
theorem eD (h:Q .normal a w) (hr:Region.ready .any ops ls=[]:=by kernel_rfl):sO P ops Q mods fuel ls a w:=Dc hr h fuel
theorem dr {N:Nat} (mods:List (Nat×Tn)) (hS:St W M T n G D F a w) (h:∀ w,Qp Q→St W M T n G D F a w→sO P l.toArray Q mods N (Array.replicate N false) a w) (hm:P.follows .mixedOrders=true:=by exact mixed) (hN:l.length=N:=by rfl) (hQ:Qp Q:=by exact (fun c a d v w h=>by cases d <;> exact h)):(Code.region id l.toArray true).wp P Q a w:=JP mods hS hm hN hQ h
theorem rC [ct:uH P tt ag Z] {c:Nat} (i:Nat) (hS:St W M T n G D F a w) (hv:lk G c=some (.pointer (some ⟨bb,0,none⟩)):=by rfl) (hi:D[i]? = some (.box bb cs bt):=by rfl) (hl:cs.length=Z:=by rfl) (hz:ag=false→Z=1:=by first | exact (fun h=>by cases h) | exact fun _=>rfl):uN P a w [.cell c tt] [bk ag cs]:=bj hS hv i hi ct.h hl hz aF
end
theorem fin {p:Prop} (h:p:=by
 first
 | ((repeat (apply uf)); exact⟨hS.mtS,hM⟩)
 | (refine⟨_,(cR hM).symm,?_⟩; (repeat (apply uf)); exact⟨rfl,hS.mtS⟩)
 | (cases hM; exact aH hS rfl (az hS rfl aF) rfl)
 | (have hM:=M0 hM hf1 hMo1; first | ((repeat (apply uf)); exact⟨hS.mtS,hM⟩) | (cases hM; exact aH hS rfl (az hS rfl aF) rfl))
 | (have hM:=JS hM hf1 hMo1; first | ((repeat (apply uf)); exact⟨hS.mtS,hM⟩) | (cases hM; exact aH hS rfl (az hS rfl aF) rfl))
 | (have hM:=lo hM hf1 hMo1; first | ((repeat (apply uf)); exact⟨hS.mtS,hM⟩) | (cases hM; exact aH hS rfl (az hS rfl aF) rfl))
 | (have hM:=M0 hM hf2 hMo2; first | ((repeat (apply uf)); exact⟨hS.mtS,hM⟩) | (cases hM; exact aH hS rfl (az hS rfl aF) rfl))
 | (have hM:=JS hM hf2 hMo2; first | ((repeat (apply uf)); exact⟨hS.mtS,hM⟩) | (cases hM; exact aH hS rfl (az hS rfl aF) rfl))
 | (have hM:=lo hM hf2 hMo2; first | ((repeat (apply uf)); exact⟨hS.mtS,hM⟩) | (cases hM; exact aH hS rfl (az hS rfl aF) rfl))):p:=h
theorem fz {p:Prop} (h:p:=by
 refine go hS fun a w hS=>?_
 repeat' (first | exact fin | (rcases cd hM with⟨_,hM⟩|⟨_,hM⟩ <;> refine go hS fun a w hS=>?_))):p:=h
end
end
end
section
open Go.RowKit
structure ar where
  Rules:(List aR)
  Base:am
  Memo:(List (ah×ByteArray))
  Seen:(List (ah×(List ah)))
structure pu where
  Done:Bool
  Value:ByteArray
  Ask:ah
theorem Eq:aU aQ 114=true:=by kernel_rfl
theorem Er:aU aQ 115=true:=by kernel_rfl
theorem Gi:aU aQ 122=true:=by kernel_rfl
theorem JG:aU aQ 123=true:=by kernel_rfl
theorem Mq:aU aQ 135=true:=by kernel_rfl
theorem JK:aU aQ 136=true:=by kernel_rfl
theorem Mt:aU aQ 142=true:=by kernel_rfl
theorem Mu:aU aQ 143=true:=by kernel_rfl
theorem JN:aU aQ 144=true:=by kernel_rfl
theorem Gk:aU aQ 150=true:=by kernel_rfl
theorem Ig:aU aQ 65=true:=by kernel_rfl
theorem Oo:aU aQ 98=true:=by kernel_rfl
theorem Bf:aU aQ 99=true:=by kernel_rfl
theorem IE:fe aQ 137 0=some 0:=by kernel_rfl
theorem IF:fe aQ 137 1=some 1:=by kernel_rfl
theorem IG:fe aQ 137 2=some 4:=by kernel_rfl
theorem IH:fe aQ 140 0=some 0:=by kernel_rfl
theorem II:fe aQ 140 1=some 1:=by kernel_rfl
theorem IJ:fe aQ 140 2=some 2:=by kernel_rfl
theorem IK:fe aQ 150 0=some 0:=by kernel_rfl
theorem IL:fe aQ 150 1=some 2:=by kernel_rfl
theorem IM:fe aQ 150 2=some 3:=by kernel_rfl
theorem sG:FA aQ 134=some (31,9):=by kernel_rfl
theorem M5:Dt aQ 137=some [(0,1),(1,3),(4,1),(5,1)]:=by kernel_rfl
theorem wj:Dt aQ 140=some [(0,1),(1,1),(2,2)]:=by kernel_rfl
theorem HA:mh aQ 154=some 158:=by kernel_rfl
theorem Nl:oz aQ 134=some (false,1):=by kernel_rfl
theorem Nm:oz aQ 140=some (true,4):=by kernel_rfl
theorem Nv:kI aQ 137=some [.slice none 0 0,.int .i64 0,.slice none 0 0,.slice none 0 0,.map none,.map none]:=by kernel_rfl
theorem ox:kI aQ 140=some [.bool false,.string cr,.int .i64 0,.string cr]:=by kernel_rfl
theorem J8:J9 aQ 9=some (.string cr):=by kernel_rfl
end
section
open Go.RowKit
theorem Mg:aU aQ 109=true:=by kernel_rfl
theorem Mh:aU aQ 110=true:=by kernel_rfl
theorem Es:aU aQ 116=true:=by kernel_rfl
theorem JC:aU aQ 118=true:=by kernel_rfl
theorem JD:aU aQ 119=true:=by kernel_rfl
theorem JE:aU aQ 120=true:=by kernel_rfl
theorem JF:aU aQ 121=true:=by kernel_rfl
theorem Mr:aU aQ 137=true:=by kernel_rfl
theorem Ms:aU aQ 141=true:=by kernel_rfl
theorem JO:aU aQ 151=true:=by kernel_rfl
theorem Mz:aU aQ 152=true:=by kernel_rfl
theorem NQ:aU aQ 30=true:=by kernel_rfl
theorem Kr:aU aQ 62=true:=by kernel_rfl
theorem IN:fe aQ 158 0=some 0:=by kernel_rfl
theorem IP:fe aQ 158 1=some 2:=by kernel_rfl
theorem Hc:Dt aQ 150=some [(0,2),(2,1),(3,1),(4,1),(5,1)]:=by kernel_rfl
theorem C7:oz aQ 158=some (true,4):=by kernel_rfl
end
section
open Go.RowKit
theorem My:aU aQ 15=true:=by kernel_rfl
theorem xI:aU aQ 24=true:=by kernel_rfl
theorem MI:aU aQ 46=true:=by kernel_rfl
theorem MJ:aU aQ 53=true:=by kernel_rfl
theorem N6:aU aQ 71=true:=by kernel_rfl
theorem CY:Dt aQ 25=some [(0,1),(1,1),(2,1)]:=by kernel_rfl
end
section
open Go.RowKit
section
variable {α β:Type} {RI:aS α} {R:aS β} {P:Nat→Prop} {W:World} {M T:Nat→Prop} {n:Nat} {G:List (Nat×Value)} {D D0 Dr rs:List cz} {F F0 F1:List bQ} {a:Act} {w:World} {e:TypeId} {v1 v2:Value} {xs1:List α} {xs2:List β}
def oy (P:Nat→Prop) (F0:List bQ) (R:aS β) (e:TypeId) (v2:Value) (xs2:List β):bQ :=
  ⟨fun T w=>∃ cl,(cz.own v2 e R.size cl).ok w∧(∀ k,(cz.own v2 e R.size cl).dom k→¬ T k∧P k)∧aB R (dT T [.own v2 e R.size cl]) w cl xs2∧∀ f∈F0,f.p (dT T [.own v2 e R.size cl]) w,
   fun h k n=>by
    obtain⟨cl,h1,h2,h3,h4⟩:=h;have hn:∀ j,dT _ [.own v2 e R.size cl] j→dT _ [.own v2 e R.size cl] j∨_:=fun j hj=>by
      rcases hj with hj | hj
      · rcases n j hj with q | q
        · exact .inl (.inl q)
        · exact .inr q
      · exact .inl (.inr hj)
    exact⟨cl,cz.keep h1 fun j hj=>k.block j (cz.lt h1 j hj) (h2 j hj).1,fun j hj=>⟨fun hT=>by
      rcases n j hT with q | q
      · exact (h2 j hj).1 q
      · have:=cz.lt h1 j hj; omega,(h2 j hj).2⟩,h3.keep (k.mono fun j hj=>.inl hj) hn,fun f hf=>f.keep (h4 f hf) (k.mono fun j hj=>.inl hj) hn⟩⟩
theorem St.freezeFr {cl:bh} (hS:St W M T n G D F a w) (hP:∀ k,M k∨W.heap.size≤k→P k) (F0:List bQ) (hF:Cj F F0) (i:Nat) (hi:D[i]? = some (.own v2 e R.size cl)) (j:Nat) (hj:F[j]? = some (ao R cl xs2)) :
    St W M T n G (D.eraseIdx i) (aK R v2 xs2::oy P F0 R e v2 xs2::F) a w:=by
  have hm:=aG hi;have h2:(oy P F0 R e v2 xs2).p (dT T (D.eraseIdx i)) w:=by
    have hn:∀ k,dT (dT T (D.eraseIdx i)) [.own v2 e R.size cl] k→dT T D k:=fun k hk=>(nV hi k).1 hk;refine⟨cl,hS.own _ hm,fun k hk=>⟨fun hT=>?_,hP k (hS.free _ hm k hk).2⟩,(show aB R (dT T D) w cl xs2 from hS.get j hj).keep (ai _ _) fun k hk=>.inl (hn k hk),fun f hf=>f.keep (hS.facts f (hF.mem f hf)) (ai _ _) fun k hk=>.inl (hn k hk)⟩;rcases hT with hT | ⟨s,hs,hT⟩
    · exact (hS.free _ hm k hk).1 hT
    · exact hS.notD i hi hk (.inr ⟨s,hs,hT⟩)
  have h3:=hS.freeze i hi j hj;refine⟨h3.size,h3.defers,h3.slots,h3.base,h3.own,h3.free,h3.apart,fun f hf=>?_,h3.tlt⟩;rcases ee.1 hf with rfl | hf
  · exact h3.facts _ rH
  · rcases ee.1 hf with rfl | hf
    · exact h2
    · exact h3.facts f (wJ _ hf)
def F5 (F0:List bQ) (f:bQ):Prop:=∀ (T T':Nat→Prop) w,(∀ g∈F0,g.p T' w)→f.p T w→f.p T' w
theorem St.thawFr (hS:St W M T n G D F a w) (i:Nat) (hi:F[i]? = some (oy P F0 R e v2 xs2)) (hP:∀ k,P k→M k∨W.heap.size≤k) (hF:∀ f∈F1,f∈F∧F5 F0 f) :
    ∃ cl,St W M T n G (.own v2 e R.size cl::D) (ao R cl xs2::(F1++F0)) a w:=by
  obtain⟨cl,h1,h2,h3,h4⟩:=(show (oy P F0 R e v2 xs2).p _ _ from hS.get i hi);have hn:∀ k,dT T (.own v2 e R.size cl::D) k→dT (dT T D) [.own v2 e R.size cl] k:=fun k hk=>by
    rcases hk with hk | ⟨s,hs,hk⟩
    · exact .inl (.inl hk)
    · rcases ee.1 hs with rfl | hs
      · exact .inr ⟨_,rH,hk⟩
      · exact .inl (.inr ⟨s,hs,hk⟩)
  have h5:∀ f∈F0,f.p (dT T (.own v2 e R.size cl::D)) w:=fun f hf=>f.keep (h4 f hf) (ai _ _) fun k hk=>.inl (hn k hk);refine⟨cl,hS.size,hS.defers,hS.slots,hS.base,fun r hr=>?_,fun r hr k hk=>?_,List.Pairwise.cons (fun s hs k hk hk2=>(h2 k hk).1 (.inr ⟨s,hs,hk2⟩)) hS.apart,fun f hf=>?_,hS.tlt⟩
  · rcases ee.1 hr with rfl | hr
    · exact h1
    · exact hS.own r hr
  · rcases ee.1 hr with rfl | hr
    · exact⟨fun hT=>(h2 k hk).1 (.inl hT),hP k (h2 k hk).2⟩
    · exact hS.free r hr k hk
  · rcases ee.1 hf with rfl | hf
    · exact h3.keep (ai _ _) fun k hk=>.inl (hn k hk)
    · rcases dc.1 hf with hf | hf
      · exact (hF f hf).2 _ _ _ h5 (hS.facts f (hF f hf).1)
      · exact h5 f hf
theorem St.toP (hS:St W M T n G (D0++Dr) F a w) (hP:∀ k,M k∨W.heap.size≤k→P k):∀ k,MD D0 k∨w.heap.size≤k→P k:=fun k hk=>hP k (by
  rcases hk with⟨r,hr,hk⟩ | hk
  · exact (hS.free r (me _ hr) k hk).2
  · exact .inr (cx hS.base.size hk))
theorem St.toPm {b:Nat} {cs:bh} {t:TypeId} (hS:St W M T n G D F a w) (i:Nat) (hi:D[i]? = some (.box b cs t)) (hP:∀ k,M k∨W.heap.size≤k→P k):∀ k,(fun k=>k=b) k∨w.heap.size≤k→P k:=fun k hk=>hP k (by
  rcases hk with hk | hk
  · exact (hS.free _ (aG hi) k (by have hk:k=b:=hk; simp [cz.dom,hk])).2
  · exact .inr (cx hS.base.size hk))
theorem bQ.lent {i:Nat} {r:cz} (f:bQ) (hi:D[i]? = some r) (h:f.p (dT T D) w):f.p (dT (dT T (D.eraseIdx i)) [r]) w :=
  f.keep h (ai _ _) fun k hk=>.inl ((nV hi k).1 hk)
theorem bQ.back {i:Nat} {r r':cz} (f:bQ) (hi:D[i]? = some r) (h:f.p (dT (dT T (D.eraseIdx i)) [r']) w):f.p (dT T (D.set i r')) w:=by
  refine f.keep h (ai _ _) fun k hk=>.inl ?_;have hl:=(bH.1 hi).1;have:=(nV (T:=T) (D:=D.set i r') (i:=i) (r:=r') (by rw [uj hl]) k).2 hk;rwa [List.eraseIdx_set_eq] at this
theorem bQ.up (f:bQ) (hi:H0 D rs) (h:f.p (dT T D) w):f.p (dT T rs) w:=f.keep h (ai _ _) fun k hk=>.inl (hi.sub k hk)
theorem CB {R:aS β} (hR:∀ (T T':Nat→Prop) w c x,R.rel T w c x→R.rel T' w c x) {cl:bh} {xs:List β}:F5 F0 (ao R cl xs):=by
  intro T T' w _ h;have h:aB R T w cl xs:=h;exact⟨h.1,fun k x hx=>by obtain⟨cs,h1,h2⟩:=h.2 k x hx; exact⟨cs,hR _ _ _ _ _ h1,h2⟩⟩
theorem KX {R:aS β} (hR:∀ (T T':Nat→Prop) w c x,R.rel T w c x→R.rel T' w c x) {v:Value} {xs ys:List β} (i:Nat) (hi:F0[i]? = some (aK R v ys)):F5 F0 (aK R v xs):=by
  intro T T' w hg h;obtain⟨A,c,e1,h1⟩:=(show aD R T w v xs from h);obtain⟨B,d,e2,h2⟩:=(show aD R T' w v ys from hg _ (aG hi));obtain⟨a1,a2,a3⟩:=h1;obtain⟨b1,b2,b3⟩:=h2;rw [e1] at e2;injection e2 with e3 e4 e5;refine⟨A,c,e1,a1,a2,?_⟩;rcases a3 with a3 | ⟨b,off,a4,a5⟩
  · exact .inl a3
  · refine .inr ⟨b,off,a4,fun k x hx=>?_⟩;obtain⟨cs,h1,h2⟩:=a5 k x hx;have hk:k<ys.length:=by rw [← e4]; exact (bH.1 hx).1
    rcases b3 with b3 | ⟨b',off',b4,b5⟩
    · rw [b3] at hk; cases hk
    · obtain⟨cs',h3,h4⟩:=b5 k ys[k] (bq hk);rw [a4] at e3;rw [← e3] at b4;injection b4 with b4;injection b4 with b4;subst b4;exact⟨cs,hR _ _ _ _ _ h1,h4.1,h2.2⟩
end
end
section
open Go.RowKit
structure aI where
  S:ar
  B:am
  Busy:(List (ah×Bool))
  Ran:(List ah)
  E:Int
theorem Mj:aU aQ 117=true:=by kernel_rfl
theorem Ks:aU aQ 63=true:=by kernel_rfl
theorem Om:aU aQ 96=true:=by kernel_rfl
theorem On:aU aQ 97=true:=by kernel_rfl
theorem KS:fe aQ 99 0=some 0:=by kernel_rfl
theorem KT:fe aQ 99 1=some 1:=by kernel_rfl
theorem KU:fe aQ 99 2=some 4:=by kernel_rfl
theorem KV:fe aQ 99 3=some 5:=by kernel_rfl
theorem KW:fe aQ 99 4=some 6:=by kernel_rfl
theorem LD:Dt aQ 99=some [(0,1),(1,3),(4,1),(5,1),(6,1)]:=by kernel_rfl
theorem Nn:oz aQ 46=some (false,1):=by kernel_rfl
theorem Np:oz aQ 95=some (false,1):=by kernel_rfl
theorem OP:oz aQ 97=some (false,1):=by kernel_rfl
theorem LZ:kI aQ 99=some [.pointer none,.int .i64 0,.slice none 0 0,.slice none 0 0,.map none,.slice none 0 0,.int .i64 0]:=by kernel_rfl
end
section
open Go.RowKit
theorem MA:aU aQ 21=true:=by kernel_rfl
theorem MC:aU aQ 26=true:=by kernel_rfl
theorem ME:aU aQ 27=true:=by kernel_rfl
theorem Kl:aU aQ 28=true:=by kernel_rfl
theorem NP:aU aQ 29=true:=by kernel_rfl
theorem N0:aU aQ 56=true:=by kernel_rfl
theorem N1:aU aQ 57=true:=by kernel_rfl
theorem Kv:aU aQ 86=true:=by kernel_rfl
theorem Oh:aU aQ 87=true:=by kernel_rfl
theorem Oi:aU aQ 88=true:=by kernel_rfl
end
section
open Go.RowKit
theorem En:aU aQ 103=true:=by kernel_rfl
theorem Mk:aU aQ 126=true:=by kernel_rfl
theorem Gj:aU aQ 146=true:=by kernel_rfl
theorem Ie:aU aQ 39=true:=by kernel_rfl
end
section
open Go.RowKit
theorem Ia:aU aQ 10=true:=by kernel_rfl
theorem Jz:aU aQ 102=true:=by kernel_rfl
theorem Ib:aU aQ 11=true:=by kernel_rfl
theorem zY:aU aQ 14=true:=by kernel_rfl
theorem Kk:aU aQ 17=true:=by kernel_rfl
theorem NN:aU aQ 18=true:=by kernel_rfl
theorem zZ:aU aQ 20=true:=by kernel_rfl
theorem MB:aU aQ 22=true:=by kernel_rfl
theorem NO:aU aQ 25=true:=by kernel_rfl
theorem NS:aU aQ 41=true:=by kernel_rfl
theorem NT:aU aQ 42=true:=by kernel_rfl
theorem NU:aU aQ 47=true:=by kernel_rfl
theorem NV:aU aQ 48=true:=by kernel_rfl
theorem NW:aU aQ 49=true:=by kernel_rfl
theorem NX:aU aQ 50=true:=by kernel_rfl
theorem NY:aU aQ 51=true:=by kernel_rfl
theorem N5:aU aQ 69=true:=by kernel_rfl
theorem Oc:aU aQ 78=true:=by kernel_rfl
theorem NA:aU aQ 8=true:=by kernel_rfl
theorem Od:aU aQ 80=true:=by kernel_rfl
theorem Oe:aU aQ 82=true:=by kernel_rfl
theorem Of:aU aQ 83=true:=by kernel_rfl
theorem FX:aU aQ 9=true:=by kernel_rfl
theorem Ot:Cd aQ 45=some (27,1,24):=by kernel_rfl
theorem Ng:mh aQ 45=some 27:=by kernel_rfl
theorem OR:kI aQ 27=some [.slice none 0 0]:=by kernel_rfl
end
section
open Go.RowKit
instance:Fc aQ 45 27:=⟨Ng⟩
instance:uH aQ 22 false 1:=⟨OM⟩
instance:uH aQ 23 false 1:=⟨LP⟩
instance:uH aQ 25 true 3:=⟨gK⟩
instance:uH aQ 27 false 1:=⟨BS⟩
instance:uH aQ 3 false 1:=⟨zB⟩
instance:uH aQ 31 true 2:=⟨e7⟩
instance:uH aQ 33 true 8:=⟨bZ⟩
instance:uH aQ 4 false 1:=⟨LQ⟩
instance:uH aQ 75 true 4:=⟨As⟩
instance:uH aQ 9 false 1:=⟨JZ⟩
instance:pU aQ 25 0 0:=⟨Kz⟩
instance:pU aQ 25 1 1:=⟨KA⟩
instance:pU aQ 25 2 2:=⟨KB⟩
instance:pU aQ 31 0 0:=⟨KC⟩
instance:pU aQ 31 1 1:=⟨KD⟩
instance:pU aQ 33 0 0:=⟨KE⟩
instance:pU aQ 33 1 2:=⟨KF⟩
instance:pU aQ 33 2 3:=⟨KG⟩
instance:pU aQ 33 3 4:=⟨KH⟩
instance:pU aQ 33 4 5:=⟨KI⟩
instance:pU aQ 33 5 6:=⟨KJ⟩
instance:pU aQ 33 6 7:=⟨KK⟩
instance:pU aQ 75 0 0:=⟨KN⟩
instance:pU aQ 75 1 2:=⟨KO⟩
instance:pU aQ 75 2 3:=⟨KP⟩
instance:Fc aQ 22 75:=⟨Ar⟩
instance:Fc aQ 23 33:=⟨dM⟩
instance:Fc aQ 26 3:=⟨DW⟩
instance:Fc aQ 27 31:=⟨mM⟩
instance:uH aQ 113 false 1:=⟨Nk⟩
instance:uH aQ 115 true 4:=⟨rV⟩
instance:uH aQ 119 true 4:=⟨HL⟩
instance:uH aQ 26 false 1:=⟨ON⟩
instance:uH aQ 89 true 3:=⟨FP⟩
instance:pU aQ 115 0 0:=⟨Ir⟩
instance:pU aQ 115 1 1:=⟨Is⟩
instance:pU aQ 115 2 2:=⟨It⟩
instance:pU aQ 115 3 3:=⟨Iu⟩
instance:pU aQ 119 0 0:=⟨Iv⟩
instance:pU aQ 119 1 1:=⟨Iw⟩
instance:pU aQ 119 2 2:=⟨Ix⟩
instance:pU aQ 119 3 3:=⟨Iy⟩
instance:pU aQ 73 0 0:=⟨KL⟩
instance:pU aQ 73 1 1:=⟨KM⟩
instance:Fc aQ 113 119:=⟨Hz⟩
instance:Fc aQ 138 9:=⟨C5⟩
instance:Fc aQ 36 115:=⟨w8⟩
instance:pU aQ 89 0 0:=⟨KQ⟩
instance:pU aQ 89 1 2:=⟨KR⟩
instance:Fc aQ 58 89:=⟨FO⟩
instance:uH aQ 120 false 1:=⟨JY⟩
instance:uH aQ 122 true 7:=⟨sI⟩
instance:uH aQ 138 false 1:=⟨zA⟩
instance:uH aQ 150 true 6:=⟨ua⟩
instance:uH aQ 36 false 1:=⟨OO⟩
instance:pU aQ 122 0 0:=⟨Iz⟩
instance:pU aQ 122 1 1:=⟨IA⟩
instance:pU aQ 122 2 4:=⟨IB⟩
instance:pU aQ 122 3 5:=⟨IC⟩
instance:pU aQ 122 4 6:=⟨ID⟩
instance:pU aQ 150 3 4:=⟨Bs⟩
instance:pU aQ 150 4 5:=⟨Bt⟩
instance:Fc aQ 120 150:=⟨tY⟩
instance:uH aQ 134 false 1:=⟨Nl⟩
instance:uH aQ 140 true 4:=⟨Nm⟩
instance:pU aQ 137 0 0:=⟨IE⟩
instance:pU aQ 137 1 1:=⟨IF⟩
instance:pU aQ 137 2 4:=⟨IG⟩
instance:pU aQ 140 0 0:=⟨IH⟩
instance:pU aQ 140 1 1:=⟨II⟩
instance:pU aQ 140 2 2:=⟨IJ⟩
instance:pU aQ 150 0 0:=⟨IK⟩
instance:pU aQ 150 1 2:=⟨IL⟩
instance:pU aQ 150 2 3:=⟨IM⟩
instance:Fc aQ 154 158:=⟨HA⟩
instance:uH aQ 158 true 4:=⟨C7⟩
instance:pU aQ 158 0 0:=⟨IN⟩
instance:pU aQ 158 1 2:=⟨IP⟩
instance:uH aQ 46 false 1:=⟨Nn⟩
instance:uH aQ 95 false 1:=⟨Np⟩
instance:uH aQ 97 false 1:=⟨OP⟩
instance:pU aQ 99 0 0:=⟨KS⟩
instance:pU aQ 99 1 1:=⟨KT⟩
instance:pU aQ 99 2 4:=⟨KU⟩
instance:pU aQ 99 3 5:=⟨KV⟩
instance:pU aQ 99 4 6:=⟨KW⟩
instance:Ke aQ 3 (.int .i64):=⟨Tryz.underlying3⟩
instance:Ke aQ 5 (.int .u8):=⟨Tryz.underlying5⟩
instance:Ke aQ 9 .string:=⟨Tryz.underlying9⟩
instance:Ke aQ 67 (.int .u64):=⟨Tryz.underlying67⟩
abbrev pt (b o:Nat):Value:=.pointer (some ⟨b,o,none⟩)
abbrev om (b:Nat) (e:Array MapEntry) (c:Nat):cz:=.obj b (.map e c)
abbrev TW (T:Nat→Prop) (w:World):Prop:=∀ k,T k→k<w.heap.size
abbrev aX (x:ah):bh:=[.int .i64 x.Kind,.string x.Text]
abbrev aE (x:ab) (v0:Value):bh:=[.int .i64 x.Key.Kind,.string x.Key.Text,.string x.Value,v0,.int .i64 x.Changed,.int .i64 x.Verified,.int .i64 x.Cost,.bool x.Dirty]
abbrev ve (x:aZ):bh:=[.int .i64 x.Key.Kind,.string x.Key.Text,.string x.Value,.int .i64 x.Changed]
abbrev aY (x:am) (v0 v1:Value):bh:=[.int .i64 x.Revision,v0,v1]
abbrev a6 (x:aW) (v0:Value):bh:=[v0,.int .i64 x.At]
abbrev nT (x:dZ):bh:=[.int .i64 x.Key.Kind,.string x.Key.Text,.string x.Value]
abbrev Kj (x:dd):bh:=[.bool x.Cell,.bool x.Pick,.int .i64 x.N,.int .i64 x.Else]
abbrev uO (x:aR) (v0:Value):bh:=[.bool x.Ring,v0,.int .i64 x.Final,.int .i64 x.C]
abbrev mg (x:bv) (v0 v1:Value):bh:=[.int .i64 x.Key.Kind,.string x.Key.Text,.bool x.Running,.int .i64 x.At,v0,v1]
abbrev uP (x:de) (v0 v1 v2 v3 v4 v5:Value):bh:=[v0,.int .i64 x.Base.Revision,v1,v2,v3,v4,v5]
abbrev DD (x:cT):bh:=[.int .i64 x.Member.Kind,.string x.Member.Text,.int .i64 x.Read.Kind,.string x.Read.Text]
abbrev Jw (x:pu):bh:=[.bool x.Done,.string x.Value,.int .i64 x.Ask.Kind,.string x.Ask.Text]
abbrev LL:=List (ah×(List ah))
abbrev LB:=List (ah×ByteArray)
abbrev LO:=List (ah×Bool)
abbrev LR:=List ab
abbrev LI:=List aZ
abbrev LK:=List ah
abbrev LU:=List aR
abbrev LV:=bh
abbrev AM:=Array MapEntry
abbrev LN:=List Int
abbrev LY:=List ByteArray
abbrev LF:=List bv
abbrev LC:=List dZ
abbrev we (v:Value) (c:bh):cz:=.own v 119 eU.size c
abbrev mr (v:Value) (c:bh):cz:=.own v 89 bm.size c
abbrev mV (v:Value) (c:bh):cz:=.own v 158 fV.size c
abbrev dC (v:Value) (c:bh):cz:=.own v 150 ax.size c
abbrev aT (v:Value) (c:bh):cz:=.own v 75 ad.size c
abbrev ay (v:Value) (c:bh):cz:=.own v 31 ac.size c
abbrev ae (v:Value) (c:bh):cz:=.own v 33 aa.size c
abbrev bU (v:Value) (c:bh):cz:=.own v 115 aw.size c
abbrev oD (e:Array MapEntry) (x:List (ah×ByteArray)):bQ:=pq ac true aS.str false e x
abbrev rK (e:Array MapEntry) (x:List (ah×(List ah))):bQ:=pq ac true (aS.slice ac) false e x
abbrev uU (e:Array MapEntry) (x:List (ah×Bool)):bQ:=pq ac true aS.bool false e x
abbrev xS (b:Nat) (v:Value) (r:Int) (v1 v2:Value) (m k:Nat):cz:=.box b [v,.int .i64 r,v1,v2,.map (some m),.map (some k)] 137
abbrev xE (b d:Nat) (r:Int) (v1 v2:Value) (m:Nat) (v3:Value) (e:Int):cz:=.box b [.pointer (some ⟨d,0,none⟩),.int .i64 r,v1,v2,.map (some m),v3,.int .i64 e] 99
end
section
set_option maxRecDepth 100000
set_option maxHeartbeats 4000000
open Go.RowKit
noncomputable section
def n6:Option Bool:=some (true)
def iF (e:LK) (f:LK) (b:Int):Option (Fl (Int) (Fl (Unit) Bool)):=cond (decide (b<(e.length:Int))) ((bg e b).bind fun c=>(bg f b).bind fun d=>cond (!(d.Kind==c.Kind&&d.Text.toList==c.Text.toList)) (some (.out (.out false))) (some (.go (IntKind.i64.wrap (b+1))))) (some (.out (.go ())))
def dI (b:LK) (c:LK):Option Bool:=cond ((b.length:Int) != (c.length:Int)) (some (false)) ((loop (fun s:Int=>iF b c s) 0).bind fun r=>Fl.el r (fun s=>n6) (fun y=>some (y)))
theorem jA (T:Nat→Prop) (W0:World) (hT:TW T W0) (c:LK) (d:LK) (i:Value) (j:Value) (t:aD ac T W0 i c) (u:aD ac T W0 j d) (y:Bool) (hM:dI c d=some y):bc aQ No 16 [i,j] W0 (fun v w'=>v = .bool y):=by
 refine en Tryz.func16 Tryz.ntmps16 hT fun a hS=>?_;replace hS:=(hS.fS (aD.dn t)).fS (aD.dn u);unfold dI at hM;refine al hS fun a hS=>?_;refine aA ?_;refine al hS fun a hS=>?_;rcases cd hM with⟨l,hM⟩|⟨l,hM⟩
 ·exact fz
 refine al hS fun a hS=>?_;refine aJ (J:=fun a w=>St W0 No T 26 [] [] [] a w∧n6=some y) ?_ ?_
 ·skip;refine al hS fun a hS=>?_;obtain⟨F,r,hMo1⟩:=bd hM;refine bB _ (fun s a w=>∃ (b:Int),b=s∧St W0 No T 26 [(1,j),(12,i),(13,aj (c.length:Int)),(14,aj b)] [] [aK ac j d,aK ac i c] a w) r ⟨_,rfl,hS.mt [] [0,1]⟩ ?_;rintro s a w C ⟨b,rfl,hS⟩ hM hf1;have hM:iF c d b=some C:=hM;unfold iF at hM;refine al hS fun a hS=>?_;refine aA ?_;rcases cd hM with⟨m,hM⟩|⟨m,hM⟩
  ·refine al hS fun a hS=>?_;refine aA ?_;refine al hS fun a hS=>?_;obtain⟨e,g,hM⟩:=bd hM;refine wl rfl (bD (R:=ac) hS mM e7 rfl rfl 1 rfl g rfl fun x E A n a hS=>?_);obtain rfl:=n;refine al hS fun a hS=>?_;refine ka hS gl fun z D a w hk hS=>?_;refine go hS fun a w hS=>?_;refine aA ?_;refine dr [] hS fun w hQ hS=>?_;refine gE [0,1] hS fun a hS=>?_;obtain⟨f,h,hM⟩:=bd hM;obtain⟨k,q,B,o,p,hS⟩:=mP (R:=ac) hS mM e7 1 rfl h;obtain rfl:=o;refine dy 2 (v:=pt k q) rfl (by kernel_rfl) (by kernel_rfl) (by kernel_rfl) rfl hQ hS (p rfl rfl) rfl rfl rfl fun a hS=>?_;refine gE [3,4] hS fun a hS=>?_;refine dy 5 (v:=.bool (!(f.Kind==e.Kind&&f.Text.toList==e.Text.toList))) rfl (by kernel_rfl) (by kernel_rfl) (by kernel_rfl) rfl hQ hS (AE hS rfl rfl) rfl rfl rfl fun a hS=>?_;refine eD ?_;exact fz
  exact fz
 rintro a w ⟨hS,hM⟩;unfold n6 at hM;exact fz
def c8 (b:Bool):Option Bool:=some (b)
def iT (b:ab) (c:ab):Option Bool:=cond (b.Key.Kind==c.Key.Kind&&b.Key.Text.toList==c.Key.Text.toList) (cond (b.Value.toList==c.Value.toList) ((dI b.Reads c.Reads).bind fun d=>cond d (cond (b.Changed==c.Changed) (cond (b.Verified==c.Verified) (cond (b.Cost==c.Cost) (c8 (b.Dirty==c.Dirty)) (c8 false)) (c8 false)) (c8 false)) (c8 false)) (c8 false)) (c8 false)
theorem tr (T:Nat→Prop) (W0:World) (hT:TW T W0) (b:ab) (c:ab) (n:Value) (o:Value) (l:aD ac T W0 n b.Reads) (m:aD ac T W0 o c.Reads) (y:Bool) (hM:iT b c=some y):bc aQ No 32 [.agg (aE b n).toArray,.agg (aE c o).toArray] W0 (fun v w'=>v = .bool y):=by
 refine en Tryz.func32 Tryz.ntmps32 hT fun a hS=>?_;replace hS:=(hS.fS (aD.dn l)).fS (aD.dn m);unfold iT at hM;refine al hS fun a hS=>?_;refine kb hS fun p r a w hk hS=>?_;refine kb hS fun q s a w hk hS=>?_;refine al hS fun a hS=>?_;refine aJ (J:=fun a w=>∃ (d:Bool),St W0 No T 52 [(4,.bool d)] [] [] a w∧c8 d=some y) ?_ ?_
 ·skip;refine al hS fun a hS=>?_;refine wl rfl (ky (v:=.bool (b.Key.Kind==c.Key.Kind&&b.Key.Text.toList==c.Key.Text.toList)) hS (z7 hS rfl rfl) rfl rfl fun a hS=>?_);refine al hS fun a hS=>?_;rcases cd hM with⟨h,hM⟩|⟨h,hM⟩
  ·refine al hS fun a hS=>?_;rcases cd hM with⟨e,hM⟩|⟨e,hM⟩
   ·refine al hS fun a hS=>?_;obtain⟨t,g,hM⟩:=bd hM;refine wg hS rfl rfl rfl e (be hS Gl rfl rfl (jA _ _ hS.dlt b.Reads c.Reads _ _ (hS.get 1 rfl) (hS.get 0 rfl) _ g) fun _ w hR a hk hA=>?_);obtain rfl:=hR;have hS:=bS hA;refine al hS fun a hS=>?_;rcases cd hM with⟨i,hM⟩|⟨i,hM⟩
    ·refine al hS fun a hS=>?_;rcases cd hM with⟨j,hM⟩|⟨j,hM⟩
     ·refine al hS fun a hS=>?_;rcases cd hM with⟨k,hM⟩|⟨k,hM⟩
      ·refine al hS fun a hS=>?_;rcases cd hM with⟨f,hM⟩|⟨f,hM⟩
       ·refine al hS fun a hS=>?_;refine qg hS f (LT hS rfl rfl Tryz.underlying4 (.inl ⟨rfl,rfl⟩)) fun a hS=>?_;exact fz
       exact fz
      exact fz
     exact fz
    exact fz
   exact fz
  exact fz
 rintro a w ⟨d,hS,hM⟩;unfold c8 at hM;exact fz
def r8:Option Bool:=some (true)
def mC (c:LR) (g:LR) (b:Int):Option (Fl (Int) (Fl (Unit) Bool)):=cond (decide (b<(c.length:Int))) ((bg c b).bind fun d=>(bg g b).bind fun e=>(iT d e).bind fun f=>cond (!(f)) (some (.out (.out false))) (some (.go (IntKind.i64.wrap (b+1))))) (some (.out (.go ())))
def rr (b:LR) (c:LR):Option Bool:=cond ((b.length:Int) != (c.length:Int)) (some (false)) ((loop (fun s:Int=>mC b c s) 0).bind fun r=>Fl.el r (fun s=>r8) (fun y=>some (y)))
theorem BJ (T:Nat→Prop) (W0:World) (hT:TW T W0) (c:LR) (d:LR) (j:Value) (k:Value) (z:aD aa T W0 j c) (A:aD aa T W0 k d) (y:Bool) (hM:rr c d=some y):bc aQ No 54 [j,k] W0 (fun v w'=>v = .bool y):=by
 refine en Tryz.func54 Tryz.ntmps54 hT fun a hS=>?_;replace hS:=(hS.fS (aD.dn z)).fS (aD.dn A);unfold rr at hM;refine al hS fun a hS=>?_;refine aA ?_;refine al hS fun a hS=>?_;rcases cd hM with⟨o,hM⟩|⟨o,hM⟩
 ·exact fz
 refine al hS fun a hS=>?_;refine aJ (J:=fun a w=>St W0 No T 27 [] [] [] a w∧r8=some y) ?_ ?_
 ·skip;refine al hS fun a hS=>?_;obtain⟨M,x,hMo1⟩:=bd hM;refine bB _ (fun s a w=>∃ (b:Int),b=s∧St W0 No T 27 [(1,k),(12,j),(13,aj (c.length:Int)),(14,aj b)] [] [aK aa k d,aK aa j c] a w) x ⟨_,rfl,hS.mt [] [0,1]⟩ ?_;rintro s a w F ⟨b,rfl,hS⟩ hM hf1;have hM:mC c d b=some F:=hM;unfold mC at hM;refine al hS fun a hS=>?_;refine aA ?_;rcases cd hM with⟨p,hM⟩|⟨p,hM⟩
  ·refine al hS fun a hS=>?_;refine aA ?_;refine al hS fun a hS=>?_;obtain⟨m,e,hM⟩:=bd hM;refine wl rfl (bD (R:=aa) hS dM bZ rfl rfl 1 rfl e rfl fun B H D q a hS=>?_);obtain⟨K,rfl,h⟩:=q;replace hS:=hS.fS h;refine al hS fun a hS=>?_;refine ka hS dq fun C G a w hk hS=>?_;refine go hS fun a w hS=>?_;refine aA ?_;refine dr [] hS fun w hQ hS=>?_;refine gE [0,1,2] hS fun a hS=>?_;obtain⟨n,f,hM⟩:=bd hM;obtain⟨l,u,E,r,t,hS⟩:=mP (R:=aa) hS dM bZ 2 rfl f;obtain⟨L,rfl,i⟩:=r;replace hS:=hS.fS i;refine dy 3 (v:=pt l u) rfl (by kernel_rfl) (by kernel_rfl) (by kernel_rfl) rfl hQ hS (t rfl rfl) rfl rfl rfl fun a hS=>?_;refine gE [4] hS fun a hS=>?_;obtain⟨I,g,hM⟩:=bd hM;refine ec 5 hS MF (tr _ _ hS.dlt m n _ _ (hS.get 2 rfl) (hS.get 0 rfl) _ g) fun _ w hR a hk hA=>?_;obtain rfl:=hR;have hS:=bS hA;refine gE [6] hS fun a hS=>?_;refine eD ?_;exact fz
  exact fz
 rintro a w ⟨hS,hM⟩;unfold r8 at hM;exact fz
def r9:Option Bool:=some (true)
def mD (e:am) (f:am) (d:Int):Option (Fl (Int) (Fl (Unit) Bool)):=cond (decide (d<(e.Inputs.length:Int))) ((bg e.Inputs d).bind fun b=>(bg f.Inputs d).bind fun c=>cond (!(c.Key.Kind==b.Key.Kind&&c.Key.Text.toList==b.Key.Text.toList&&c.Value.toList==b.Value.toList&&c.Changed==b.Changed)) (some (.out (.out false))) (some (.go (IntKind.i64.wrap (d+1))))) (some (.out (.go ())))
def ly (b:am) (c:am):Option Bool:=cond (b.Revision != c.Revision) (some (false)) (cond ((b.Inputs.length:Int) != (c.Inputs.length:Int)) (some (false)) ((rr b.Records c.Records).bind fun d=>cond (!(d)) (some (false)) ((loop (fun s:Int=>mD b c s) 0).bind fun r=>Fl.el r (fun s=>r9) (fun y=>some (y)))))
theorem wt (T:Nat→Prop) (W0:World) (hT:TW T W0) (c:am) (b:am) (l:Value) (F:Value) (m:Value) (n:Value) (B:aD ad T W0 l c.Inputs) (C:aD aa T W0 F c.Records) (D:aD ad T W0 m b.Inputs) (E:aD aa T W0 n b.Records) (y:Bool) (hM:ly c b=some y):bc aQ No 22 [.agg (aY c l F).toArray,.agg (aY b m n).toArray] W0 (fun v w'=>v = .bool y):=by
 refine en Tryz.func22 Tryz.ntmps22 hT fun a hS=>?_;replace hS:=(((hS.fS (aD.dn B)).fS (aD.dn C)).fS (aD.dn D)).fS (aD.dn E);unfold ly at hM;refine al hS fun a hS=>?_;refine kb hS fun G N a w hk hS=>?_;refine kb hS fun g O a w hk hS=>?_;refine al hS fun a hS=>?_;refine aA ?_;refine i1 ?_;refine al hS fun a hS=>?_;rcases cd hM with⟨p,hM⟩|⟨p,hM⟩
 ·exact fz
 refine al hS fun a hS=>?_;rcases cd hM with⟨h,hM⟩|⟨h,hM⟩
 ·exact fz
 refine al hS fun a hS=>?_;obtain⟨S,k,hM⟩:=bd hM;refine wg hS rfl rfl rfl h (be hS NZ rfl rfl (BJ _ _ hS.dlt c.Records b.Records _ _ (hS.get 2 rfl) (hS.get 0 rfl) _ k) fun _ w hR a hk hA=>?_);obtain rfl:=hR;have hS:=bS hA;refine al hS fun a hS=>?_;rcases cd hM with⟨q,hM⟩|⟨q,hM⟩
 ·exact fz
 refine al hS fun a hS=>?_;refine aJ (J:=fun a w=>St W0 No T 45 [] [] [] a w∧r9=some y) ?_ ?_
 ·skip;refine al hS fun a hS=>?_;obtain⟨U,A,hMo1⟩:=bd hM;refine bB _ (fun s a w=>∃ (f:Int),f=s∧St W0 No T 45 [(3,pt g 0),(30,l),(31,aj (c.Inputs.length:Int)),(32,aj f)] [.box g (aY b m n) 25] [aK ad l c.Inputs,aK ad m b.Inputs,aK aa n b.Records] a w) A ⟨_,rfl,hS.mt [0] [3,1,0]⟩ ?_;rintro s a w M ⟨f,rfl,hS⟩ hM hf1;have hM:mD c b f=some M:=hM;unfold mD at hM;refine al hS fun a hS=>?_;refine aA ?_;rcases cd hM with⟨r,hM⟩|⟨r,hM⟩
  ·refine al hS fun a hS=>?_;refine aA ?_;refine al hS fun a hS=>?_;obtain⟨d,i,hM⟩:=bd hM;refine wl rfl (bD (R:=ad) hS Ar As rfl rfl 0 rfl i rfl fun H Q K t a hS=>?_);obtain rfl:=t;refine al hS fun a hS=>?_;refine ka hS xU fun I P a w hk hS=>?_;refine go hS fun a w hS=>?_;refine aA ?_;refine dr [] hS fun w hQ hS=>?_;refine gE [0,1,2] hS fun a hS=>?_;obtain⟨e,j,hM⟩:=bd hM;obtain⟨o,z,L,u,x,hS⟩:=mP (R:=ad) hS Ar As 2 rfl j;obtain rfl:=u;refine dy 3 (v:=pt o z) rfl (by kernel_rfl) (by kernel_rfl) (by kernel_rfl) rfl hQ hS (x rfl rfl) rfl rfl rfl fun a hS=>?_;refine gE [4,5] hS fun a hS=>?_;refine dy 6 (v:=.bool (!(e.Key.Kind==d.Key.Kind&&e.Key.Text.toList==d.Key.Text.toList&&e.Value.toList==d.Value.toList&&e.Changed==d.Changed))) rfl (by kernel_rfl) (by kernel_rfl) (by kernel_rfl) rfl hQ hS (MV hS rfl rfl) rfl rfl rfl fun a hS=>?_;refine eD ?_;exact fz
  exact fz
 rintro a w ⟨hS,hM⟩;unfold r9 at hM;exact fz
def nj (b:Int):Option ah:=cond (decide (b<0)) (some ((ah.mk 0 cr))) (cond (decide ((99:Int)<b)) (some ((ah.mk 0 cr))) ((vY b).bind fun c=>some ((ah.mk 30 c))))
theorem s7 (T:Nat→Prop) (W0:World) (hT:TW T W0) (hLv:dx T W0) (b:Int) (y:ah) (hM:nj b=some y):bc aQ No 90 [aj b] W0 (fun v w'=>v = .agg (aX y).toArray):=by
 refine en Tryz.func90 Tryz.ntmps90 hT fun a hS=>?_;replace hS:=hS.fact bu (dx.dn hLv);unfold nj at hM;refine al hS fun a hS=>?_;refine ka hS gl fun g h a w hk hS=>?_;refine al hS fun a hS=>?_;refine aA ?_;refine i1 ?_;refine al hS fun a hS=>?_;rcases cd hM with⟨e,hM⟩|⟨e,hM⟩
 ·refine al hS fun a hS=>?_;refine qy hS (bE (ps:=[]) hS BH gl rfl (us:=[]) trivial (ws:=[aj 0,a8 cr]) rfl) fun a hS=>?_;refine go hS fun a w hS=>?_;cases hM
  refine aH hS rfl (rC 0 hS) ?_;exact rfl
 refine al hS fun a hS=>?_;rcases cd hM with⟨f,hM⟩|⟨f,hM⟩
 ·refine al hS fun a hS=>?_;refine qy hS (bE (ps:=[]) hS BH gl rfl (us:=[]) trivial (ws:=[aj 0,a8 cr]) rfl) fun a hS=>?_;refine go hS fun a w hS=>?_;cases hM
  refine aH hS rfl (rC 0 hS) ?_;exact rfl
 refine al hS fun a hS=>?_;obtain⟨c,d,hM⟩:=bd hM;refine kc hS Ep (xX _ _ hS.dlt (hS.get 0 rfl) b _ d) fun _ w hR a hk hA=>?_;obtain rfl:=hR;have hS:=bS hA;refine qy hS (bE (ps:=[(0,.const (aj 30)),(1,.tmp 11)]) hS BH gl rfl (us:=[[aj 30],[a8 c]]) ⟨rfl,⟨rfl,trivial⟩⟩ (ws:=[aj 30,a8 c]) rfl) fun a hS=>?_;refine go hS fun a w hS=>?_;cases hM
 refine aH hS rfl (rC 0 hS) ?_;exact rfl
def qG (b:LN):Option aW:=some ((aW.mk b 0))
theorem rP (T:Nat→Prop) (W0:World) (hT:TW T W0) (d:LN) (b:Value) (g:aD (aS.int .i64) T W0 b d) (y:aW) (hM:qG d=some y):bc aQ No 10 [b] W0 (fun v w'=>∃ (c:Nat) (f:Value),v=pt c 0∧W0.heap.size≤c∧w'.heap[c]? = some (.cells (a6 y f).toArray 73 (0,0))∧aD (aS.int .i64) (dT T [.box c (a6 y f) 73]) w' f y.L):=by
 refine en Tryz.func10 Tryz.ntmps10 hT fun a hS=>?_;replace hS:=hS.fS (aD.dn g);unfold qG at hM;refine al hS fun a hS=>?_;refine qy hS (bE (ps:=[(0,.tmp 3)]) hS OB OS rfl (us:=[[b]]) ⟨(lb (aD.one ((hS.get 0 rfl):aD (aS.int .i64) _ _ _ _))),trivial⟩ (ws:=[b,aj 0]) rfl) fun a hS=>?_;refine kb hS fun e h a w hk hS=>?_;refine al hS fun a hS=>?_;cases hM
 refine aH hS rfl (az hS rfl aF) ?_;exact⟨e,b,rfl,hS.boxNew 0 rfl,hS.boxRow 0 rfl,(aD.up ⟨.inr (aG (i:=0) rfl),trivial⟩ (hS.get 0 rfl))⟩
def jt (c:Int) (b:Int):Option Int:=cond (decide (b<1)) (some (0)) (gd (b != 0) <| gd (b != 0) <| some (Int.tmod (IntKind.i64.wrap ((Int.tmod c b)+b)) b))
theorem jZ (T:Nat→Prop) (W0:World) (hT:TW T W0) (c:Int) (b:Int) (y:Int) (hM:jt c b=some y):bc aQ No 12 [aj c,aj b] W0 (fun v w'=>v=aj y):=by
 refine en Tryz.func12 Tryz.ntmps12 hT fun a hS=>?_;unfold jt at hM;refine al hS fun a hS=>?_;refine aA ?_;refine al hS fun a hS=>?_;rcases cd hM with⟨d,hM⟩|⟨d,hM⟩
 ·exact fz
 refine al hS fun a hS=>?_;obtain⟨e,hM⟩:=bo hM;refine qy hS (zH hS rfl rfl (bne_iff_ne.1 e)) fun a hS=>?_;refine al hS fun a hS=>?_;obtain⟨f,hM⟩:=bo hM;refine qy hS (zH hS rfl rfl (bne_iff_ne.1 f)) fun a hS=>?_;exact fz
def bJ (b:aW) (e:Int):Option (Int×aW):=cond (decide ((b.L.length:Int)≤b.At)) (some ((0,b))) ((bg b.L (IntKind.i64.wrap ((IntKind.i64.wrap (b.At+1))-1))).bind fun c=>(jt c e).bind fun d=>some ((d,(aW.mk b.L (IntKind.i64.wrap (b.At+1))))))
theorem bn (T:Nat→Prop) (W0:World) (hT:TW T W0) (d:aW) (f:Int) (e:Value) (b:Nat) (s:W0.heap[b]? = some (.cells (a6 d e).toArray 73 (0,0))) (q:¬ T b) (t:aD (aS.int .i64) (dT T [.box b (a6 d e) 73]) W0 e d.L) (y:Int×aW) (hM:bJ d f=some y):bc aQ (fun k=>k=b) 19 [pt b 0,aj f] W0 (fun v w'=>∃ (j:Value),v=aj y.1∧w'.heap[b]? = some (.cells (a6 y.2 j).toArray 73 (0,0))∧aD (aS.int .i64) (dT T [.box b (a6 y.2 j) 73]) w' j y.2.L∧e=j):=by
 refine rY (c:=_) Tryz.func19 rfl T 35 Tryz.ntmps19 hT rfl s q fun a hS=>?_;replace hS:=hS.fS t;unfold bJ at hM;refine al hS fun a hS=>?_;refine aA ?_;refine aA ?_;refine dr [] hS fun w hQ hS=>?_;refine gE [0,1,2,3,4,5,6,7,8,9] hS fun a hS=>?_;refine eD ?_;refine al hS fun a hS=>?_;rcases cd hM with⟨n,hM⟩|⟨n,hM⟩
 ·refine al hS fun a hS=>?_;cases hM
  refine aH hS rfl (az hS rfl aF) ?_;exact⟨e,rfl,hS.boxRow 0 rfl,(aD.up ⟨.inr (aG (i:=0) rfl),trivial⟩ (hS.get 0 rfl)),rfl⟩
 refine go hS fun a w hS=>?_;refine aA ?_;refine dr [] hS fun w hQ hS=>?_;refine gE [0,1,2,3,4,5,6,7,8] hS fun a hS=>?_;obtain⟨m,g,hM⟩:=bd hM;obtain⟨l,r,u,o,p,hS⟩:=mP (R:=(aS.int .i64)) hS DW zB 0 rfl g;obtain rfl:=o;refine dy 9 (v:=pt l r) rfl (by kernel_rfl) (by kernel_rfl) (by kernel_rfl) rfl hQ hS (p rfl rfl) rfl rfl rfl fun a hS=>?_;refine gE [10,11] hS fun a hS=>?_;obtain⟨x,h,hM⟩:=bd hM;refine ec 12 hS Be (jZ _ _ hS.dlt m f _ h) fun _ w hR a hk hA=>?_;obtain rfl:=hR;have hS:=bS hA;refine gE [13] hS fun a hS=>?_;refine eD ?_;refine al hS fun a hS=>?_;cases hM
 refine aH hS rfl (az hS rfl aF) ?_;exact⟨e,rfl,hS.boxRow 0 rfl,(aD.up ⟨.inr (aG (i:=0) rfl),trivial⟩ (hS.get 1 rfl)),rfl⟩
def sv (e:aW) (c:LY):Option (ByteArray×aW):=(bJ e (c.length:Int)).bind fun b=>(bg c b.1).bind fun d=>some ((d,(aW.mk b.2.L b.2.At)))
theorem Cx (T:Nat→Prop) (W0:World) (hT:TW T W0) (b:aW) (h:LY) (f:Value) (t:Value) (d:Nat) (q:W0.heap[d]? = some (.cells (a6 b f).toArray 73 (0,0))) (o:¬ T d) (r:aD (aS.int .i64) (dT T [.box d (a6 b f) 73]) W0 f b.L) (s:aD aS.str (dT T [.box d (a6 b f) 73]) W0 t h) (y:ByteArray×aW) (hM:sv b h=some y):bc aQ (fun k=>k=d) 91 [pt d 0,t] W0 (fun v w'=>∃ (m:Value),v=a8 y.1∧w'.heap[d]? = some (.cells (a6 y.2 m).toArray 73 (0,0))∧aD (aS.int .i64) (dT T [.box d (a6 y.2 m) 73]) w' m y.2.L∧f=m):=by
 refine rY (c:=_) Tryz.func91 rfl T 12 Tryz.ntmps91 hT rfl q o fun a hS=>?_;replace hS:=(hS.fS r).fS s;unfold sv at hM;refine al hS fun a hS=>?_;obtain⟨p,l,hM⟩:=bd hM;refine wl rfl (cn hS lO rfl rfl 0 rfl (bn _ _ (hS.drop 0).dlt b (h.length:Int) _ _ (hS.boxRow 0 rfl) (hS.notin 0 rfl) (aD.lent (i:=0) rfl (hS.get 1 rfl)) _ l) fun _ w hR hk=>?_);obtain⟨B,he,hrow,g,e⟩:=hR;obtain rfl:=he.symm;subst e;refine⟨(a6 p.2 f),hrow,fun a hS=>?_⟩;replace hS:=hS.fS (aD.back (i:=0) rfl g);obtain⟨z,j,hM⟩:=bd hM;refine wl rfl (bD (R:=aS.str) hS C5 JZ rfl rfl 1 rfl j rfl fun u A x n a hS=>?_);obtain rfl:=n;refine al hS fun a hS=>?_;cases hM
 refine aH hS rfl (az hS rfl aF) ?_;exact⟨f,rfl,hS.boxRow 0 rfl,(aD.up ⟨.inr (aG (i:=0) rfl),trivial⟩ (hS.get 1 rfl)),rfl⟩
def pC (e:aW):Option (dZ×aW):=(bJ e 4).bind fun b=>(nj b.1).bind fun d=>(sv (aW.mk b.2.L b.2.At) ([(ByteArray.mk #[48]),(ByteArray.mk #[49]),(ByteArray.mk #[50]),(ByteArray.mk #[51]),(ByteArray.mk #[55]),(ByteArray.mk #[49,48,48]),cr,(ByteArray.mk #[120]),(ByteArray.mk #[49,54]),(ByteArray.mk #[49])])).bind fun c=>some (((dZ.mk d c.1),(aW.mk c.2.L c.2.At)))
theorem Ae (T:Nat→Prop) (W0:World) (hT:TW T W0) (b:aW) (f:Value) (e:Nat) (t:W0.heap[e]? = some (.cells (a6 b f).toArray 73 (0,0))) (s:¬ T e) (u:aD (aS.int .i64) (dT T [.box e (a6 b f) 73]) W0 f b.L) (hLv:dx (dT T [.box e (a6 b f) 73]) W0) (y:dZ×aW) (hM:pC b=some y):bc aQ (fun k=>k=e) 59 [pt e 0] W0 (fun v w'=>∃ (r:Value),v = .agg (nT y.1).toArray∧w'.heap[e]? = some (.cells (a6 y.2 r).toArray 73 (0,0))∧aD (aS.int .i64) (dT T [.box e (a6 y.2 r) 73]) w' r y.2.L∧f=r):=by
 refine rY (c:=_) Tryz.func59 rfl T 10 Tryz.ntmps59 hT rfl t s fun a hS=>?_;replace hS:=(hS.fact bu hLv).fS u;unfold pC at hM;refine al hS fun a hS=>?_;refine ka hS Ed fun z B a w hk hS=>?_;refine al hS fun a hS=>?_;obtain⟨d,o,hM⟩:=bd hM;refine wl rfl (cn hS lO rfl rfl 1 rfl (bn _ _ (hS.drop 1).dlt b 4 _ _ (hS.boxRow 1 rfl) (hS.notin 1 rfl) (aD.lent (i:=1) rfl (hS.get 0 rfl)) _ o) fun _ w hR hk=>?_);obtain⟨C,he,hrow,m,g⟩:=hR;obtain rfl:=he.symm;subst g;refine⟨(a6 d.2 f),hrow,fun a hS=>?_⟩;replace hS:=hS.fS (aD.back (i:=1) rfl m);obtain⟨j,p,hM⟩:=bd hM;refine kc hS Kw (s7 _ _ hS.dlt (hS.get 2 rfl) d.1 _ p) fun _ w hR a hk hA=>?_;obtain rfl:=hR;have hS:=bS hA;refine al hS fun a hS=>?_;refine wl rfl (bf (ps:=[(0,.const (.string ⟨#[48]⟩)),(1,.const (.string ⟨#[49]⟩)),(2,.const (.string ⟨#[50]⟩)),(3,.const (.string ⟨#[51]⟩)),(4,.const (.string ⟨#[55]⟩)),(5,.const (.string ⟨#[49,48,48]⟩)),(6,.const (.string ⟨#[]⟩)),(7,.const (.string ⟨#[120]⟩)),(8,.const (.string ⟨#[49,54]⟩)),(9,.const (.string ⟨#[49]⟩))]) hS tG Nx (zl:=[a8 cr,a8 cr,a8 cr,a8 cr,a8 cr,a8 cr,a8 cr,a8 cr,a8 cr,a8 cr]) (by kernel_rfl) rfl (us:=[[a8 (ByteArray.mk #[48])],[a8 (ByteArray.mk #[49])],[a8 (ByteArray.mk #[50])],[a8 (ByteArray.mk #[51])],[a8 (ByteArray.mk #[55])],[a8 (ByteArray.mk #[49,48,48])],[a8 cr],[a8 (ByteArray.mk #[120])],[a8 (ByteArray.mk #[49,54])],[a8 (ByteArray.mk #[49])]]) ⟨rfl,⟨rfl,⟨rfl,⟨rfl,⟨rfl,⟨rfl,⟨rfl,⟨rfl,⟨rfl,⟨rfl,trivial⟩⟩⟩⟩⟩⟩⟩⟩⟩⟩ (ws:=[a8 (ByteArray.mk #[48]),a8 (ByteArray.mk #[49]),a8 (ByteArray.mk #[50]),a8 (ByteArray.mk #[51]),a8 (ByteArray.mk #[55]),a8 (ByteArray.mk #[49,48,48]),a8 cr,a8 (ByteArray.mk #[120]),a8 (ByteArray.mk #[49,54]),a8 (ByteArray.mk #[49])]) rfl rfl rfl rfl fun A a w hk hS=>?_);replace hS:=(hS.lit (R:=aS.str) (us:=[a8 (ByteArray.mk #[48]),a8 (ByteArray.mk #[49]),a8 (ByteArray.mk #[50]),a8 (ByteArray.mk #[51]),a8 (ByteArray.mk #[55]),a8 (ByteArray.mk #[49,48,48]),a8 cr,a8 (ByteArray.mk #[120]),a8 (ByteArray.mk #[49,54]),a8 (ByteArray.mk #[49])]) (xs:=[(ByteArray.mk #[48]),(ByteArray.mk #[49]),(ByteArray.mk #[50]),(ByteArray.mk #[51]),(ByteArray.mk #[55]),(ByteArray.mk #[49,48,48]),cr,(ByteArray.mk #[120]),(ByteArray.mk #[49,54]),(ByteArray.mk #[49])]) 0 rfl (by decide) ((aB.one_ (R:=aS.str) (x:=(ByteArray.mk #[48])) rfl).append ((aB.one_ (R:=aS.str) (x:=(ByteArray.mk #[49])) rfl).append ((aB.one_ (R:=aS.str) (x:=(ByteArray.mk #[50])) rfl).append ((aB.one_ (R:=aS.str) (x:=(ByteArray.mk #[51])) rfl).append ((aB.one_ (R:=aS.str) (x:=(ByteArray.mk #[55])) rfl).append ((aB.one_ (R:=aS.str) (x:=(ByteArray.mk #[49,48,48])) rfl).append ((aB.one_ (R:=aS.str) (x:=cr) rfl).append ((aB.one_ (R:=aS.str) (x:=(ByteArray.mk #[120])) rfl).append ((aB.one_ (R:=aS.str) (x:=(ByteArray.mk #[49,54])) rfl).append (aB.one_ (R:=aS.str) (x:=(ByteArray.mk #[49])) rfl)))))))))) rfl rfl).freeze (R:=aS.str) 0 rfl 0 rfl;obtain⟨l,q,hM⟩:=bd hM;refine wl rfl (cn hS Oj rfl rfl 1 rfl (Cx _ _ (hS.drop 1).dlt (aW.mk d.2.L d.2.At) ([(ByteArray.mk #[48]),(ByteArray.mk #[49]),(ByteArray.mk #[50]),(ByteArray.mk #[51]),(ByteArray.mk #[55]),(ByteArray.mk #[49,48,48]),cr,(ByteArray.mk #[120]),(ByteArray.mk #[49,54]),(ByteArray.mk #[49])]) _ _ _ (hS.boxRow 1 rfl) (hS.notin 1 rfl) (aD.lent (i:=1) rfl (hS.get 2 rfl)) (aD.lent (i:=1) rfl (hS.get 0 rfl)) _ q) fun _ w hR hk=>?_);obtain⟨D,he,hrow,n,h⟩:=hR;obtain rfl:=he.symm;subst h;refine⟨(a6 l.2 f),hrow,fun a hS=>?_⟩;replace hS:=hS.fS (aD.back (i:=1) rfl n);refine qy hS (bE (ps:=[(0,.tmp 5),(1,.tmp 8)]) hS OC Ed rfl (us:=[(aX j),[a8 l.1]]) ⟨rfl,⟨rfl,trivial⟩⟩ (ws:=[aj j.Kind,a8 j.Text,a8 l.1]) rfl) fun a hS=>?_;refine go hS fun a w hS=>?_;cases hM
 refine aH hS rfl (rC 0 hS) ?_;exact⟨f,rfl,hS.boxRow 1 rfl,(aD.up ⟨.inr (aG (i:=1) rfl),trivial⟩ (hS.get 0 rfl)),rfl⟩
def mS (d:LC) (b:LN) (c:Int):Option (LC×aW):=some ((d,(aW.mk b c)))
def mT (c:LC) (f:Int) (d:LN) (e:Int):Option (Fl (LC×Int×LN×Int) (LC×LN×Int)):=cond (decide ((0:Int)<f)) ((pC (aW.mk d e)).bind fun b=>gd (bT (c.length+([(dZ.mk (ah.mk b.1.Key.Kind b.1.Key.Text) b.1.Value)]).length)) <| some (.go ((c++([(dZ.mk (ah.mk b.1.Key.Kind b.1.Key.Text) b.1.Value)])),IntKind.i64.wrap (f-1),b.2.L,b.2.At))) (some (.out (c,d,e)))
def lW (d:aW) (c:Int):Option (LC×aW):=(bJ d (IntKind.i64.wrap (c+1))).bind fun b=>(loop (fun s:LC×Int×LN×Int=>mT s.1 s.2.1 s.2.2.1 s.2.2.2) (([]:List dZ),b.1,b.2.L,b.2.At)).bind fun r=>mS r.1 r.2.1 r.2.2
theorem tN (T:Nat→Prop) (W0:World) (hT:TW T W0) (j:aW) (n:Int) (h:Value) (d:Nat) (N:W0.heap[d]? = some (.cells (a6 j h).toArray 73 (0,0))) (K:¬ T d) (P:aD (aS.int .i64) (dT T [.box d (a6 j h) 73]) W0 h j.L) (hLv:dx (dT T [.box d (a6 j h) 73]) W0) (y:LC×aW) (hM:lW j n=some y):bc aQ (fun k=>k=d) 27 [pt d 0,aj n] W0 (fun v w'=>∃ (G:Value) (wO:bh) (D:Value),v=G∧ip bm T W0 w' [mr G wO,.box d (a6 y.2 D) 73] 89 G wO y.1∧w'.heap[d]? = some (.cells (a6 y.2 D).toArray 73 (0,0))∧aD (aS.int .i64) (dT T [mr G wO,.box d (a6 y.2 D) 73]) w' D y.2.L∧h=D):=by
 refine rY (c:=_) Tryz.func27 rfl T 21 Tryz.ntmps27 hT rfl N K fun a hS=>?_;replace hS:=(hS.fact bu hLv).fS P;unfold lW at hM;refine al hS fun a hS=>?_;refine aJ (J:=fun a w=>∃ (z:LC) (t:LN) (u:Int) (o:Value) (l:LV),St W0 (fun k=>k=d) T 21 [(5,o)] [mr o l,.box d [h,aj u] 73] [ao bm l z,aK (aS.int .i64) h t,bu] a w∧mS z t u=some y) ?_ ?_
 ·skip;refine al hS fun a hS=>?_;obtain⟨M,F,hM⟩:=bd hM;refine wl rfl (cn hS lO rfl rfl 0 rfl (bn _ _ (hS.drop 0).dlt j (IntKind.i64.wrap (n+1)) _ _ (hS.boxRow 0 rfl) (hS.notin 0 rfl) (aD.lent (i:=0) rfl (hS.get 0 rfl)) _ F) fun _ w hR hk=>?_);obtain⟨V,he,hrow,B,p⟩:=hR;obtain rfl:=he.symm;subst p;refine⟨(a6 M.2 h),hrow,fun a hS=>?_⟩;replace hS:=hS.fS (aD.back (i:=0) rfl B);refine al hS fun a hS=>?_;replace hS:=hS.nilRow bm 89 (by decide);obtain⟨Y,O,hMo1⟩:=bd hM;refine bB _ (fun s a w=>∃ (g:LC) (m:Int) (e:LN) (f:Int) (A:Value) (r:LV),(g,m,e,f)=s∧St W0 (fun k=>k=d) T 21 [(0,pt d 0),(5,A),(6,aj m)] [mr A r,.box d [h,aj f] 73] [ao bm r g,aK (aS.int .i64) h e,bu] a w) O ⟨_,_,_,_,_,_,rfl,hS.mt [0,1] [0,1,3]⟩ ?_;rintro s a w U ⟨g,m,e,f,A,r,rfl,hS⟩ hM hf1;have hM:mT g m e f=some U:=hM;unfold mT at hM;refine aA ?_;refine al hS fun a hS=>?_;rcases cd hM with⟨H,hM⟩|⟨H,hM⟩
  ·refine al hS fun a hS=>?_;refine aA ?_;refine al hS fun a hS=>?_;obtain⟨b,E,hM⟩:=bd hM;refine wl rfl (cn hS N2 rfl rfl 1 rfl (Ae _ _ (hS.drop 1).dlt (aW.mk e f) _ _ (hS.boxRow 1 rfl) (hS.notin 1 rfl) (aD.lent (i:=1) rfl (hS.get 1 rfl)) (bu.keep (hS.get 2 rfl) (ai _ _) (fun k hk=>.inl ((nV (i:=1) rfl k).1 hk))) _ E) fun _ w hR hk=>?_);obtain⟨W,he,hrow,C,q⟩:=hR;obtain rfl:=he.symm;subst q;refine⟨(a6 b.2 h),hrow,fun a hS=>?_⟩;replace hS:=hS.fS (aD.back (i:=1) rfl C);refine wl rfl (bf (ps:=[(0,.tmp 17)]) hS MT Ed (zl:=[aj 0,a8 cr,a8 cr]) (by kernel_rfl) rfl (us:=[(nT b.1)]) ⟨rfl,trivial⟩ (ws:=(nT b.1)) rfl rfl rfl rfl fun Q a w hk hS=>?_);replace hS:=(hS.lit (R:=bm) (us:=(nT b.1)) (xs:=[(dZ.mk (ah.mk b.1.Key.Kind b.1.Key.Text) b.1.Value)]) 0 rfl (by decide) (aB.one_ (R:=bm) (x:=(dZ.mk (ah.mk b.1.Key.Kind b.1.Key.Text) b.1.Value)) rfl) rfl rfl).freeze (R:=bm) 0 rfl 0 rfl;obtain⟨I,hM⟩:=bo hM;refine wl rfl (bM (R:=bm) (xs:=g) (ys:=[(dZ.mk (ah.mk b.1.Key.Kind b.1.Key.Text) b.1.Value)]) hS MT (by decide) (by decide) rfl rfl 0 rfl 3 rfl 0 rfl I rfl fun X S a w hk hS=>?_);refine al hS fun a hS=>?_;exact⟨_,(cR hM).symm,_,_,_,_,_,_,rfl,hS.mt [0,1] [0,3,6]⟩
  refine al hS fun a hS=>?_;cases hM
  have hr:=hf1 _ rfl;subst hr;have hM:mS g e f=some y:=hMo1;exact⟨_,_,_,_,_,hS.mt [0,1] [0,1,2],hM⟩
 rintro a w ⟨z,t,u,o,l,hS,hM⟩;unfold mS at hM;refine al hS fun a hS=>?_;cases hM
 refine aH hS rfl (az hS rfl aF) ?_;exact⟨o,l,h,rfl,hS.retOwnm ⟨.inr (aG (i:=0) rfl),⟨.inr (aG (i:=1) rfl),trivial⟩⟩ 0 rfl 0 rfl 1 rfl (by decide),hS.boxRow 1 rfl,(aD.up ⟨.inr (aG (i:=0) rfl),⟨.inr (aG (i:=1) rfl),trivial⟩⟩ (hS.get 1 rfl)),rfl⟩
def lq (b:Int) (c:Int):Option (Int×Int):=some ((b,c))
def fk (c:LU) (f:Int) (b:Int):Option (Fl (Int) (Int)):=(bg c f).bind fun d=>cond d.Ring (cond (decide (b<(c.length:Int))) ((bg c b).bind fun e=>cond e.Ring (some (.go (IntKind.i64.wrap (b+1)))) (some (.out b))) (some (.out b))) (some (.out b))
def lr (b:LU) (c:Int) (d:Int):Option (Int×Int):=(loop (fun s:Int=>fk b c s) (IntKind.i64.wrap (c+1))).bind fun r=>lq d r
def fm (c:LU) (f:Int) (b:Int):Option (Fl (Int) (Int)):=(bg c f).bind fun d=>cond d.Ring (cond (decide ((0:Int)<b)) ((bg c (IntKind.i64.wrap (b-1))).bind fun e=>cond e.Ring (some (.go (IntKind.i64.wrap (b-1)))) (some (.out b))) (some (.out b))) (some (.out b))
def ny (b:LU) (c:Int):Option (Int×Int):=cond (decide (c<0)) (some ((0,0))) (cond (decide ((b.length:Int)≤c)) (some ((0,0))) ((loop (fun s:Int=>fm b c s) c).bind fun r=>lr b c r))
theorem uW (T:Nat→Prop) (W0:World) (hT:TW T W0) (b:LU) (c:Int) (g:Value) (G:aD aw T W0 g b) (y:Int×Int) (hM:ny b c=some y):bc aQ No 85 [g,aj c] W0 (fun v w'=>v = .tuple #[aj y.1,aj y.2]):=by
 refine en Tryz.func85 Tryz.ntmps85 hT fun a hS=>?_;replace hS:=hS.fS (aD.dn G);unfold ny at hM;refine al hS fun a hS=>?_;refine aA ?_;refine i1 ?_;refine al hS fun a hS=>?_;rcases cd hM with⟨x,hM⟩|⟨x,hM⟩
 ·refine al hS fun a hS=>?_;cases hM
  refine aH hS Tryz.results85 (az hS rfl (az hS rfl aF)) ?_;exact rfl
 refine al hS fun a hS=>?_;rcases cd hM with⟨z,hM⟩|⟨z,hM⟩
 ·refine al hS fun a hS=>?_;cases hM
  refine aH hS Tryz.results85 (az hS rfl (az hS rfl aF)) ?_;exact rfl
 refine al hS fun a hS=>?_;refine aJ (J:=fun a w=>∃ (d:Int),St W0 No T 60 [(0,g),(1,aj c),(6,aj d),(7,aj (IntKind.i64.wrap (c+1)))] [] [aK aw g b] a w∧lr b c d=some y) ?_ ?_
 ·skip;refine al hS fun a hS=>?_;obtain⟨r1,k,hMo1⟩:=bd hM;refine bB _ (fun s a w=>∃ (e:Int),e=s∧St W0 No T 60 [(0,g),(1,aj c),(6,aj e),(7,aj (IntKind.i64.wrap (c+1)))] [] [aK aw g b] a w) k ⟨_,rfl,hS.mt [] [0]⟩ ?_;rintro s a w u ⟨e,rfl,hS⟩ hM hf1;have hM:fm b c e=some u:=hM;unfold fm at hM;refine aA ?_;refine i1 ?_;refine al hS fun a hS=>?_;obtain⟨U,n,hM⟩:=bd hM;refine wl rfl (bD (R:=aw) hS w8 rV rfl rfl 0 rfl n rfl fun H W M A a hS=>?_);obtain⟨a1,rfl,p⟩:=A;replace hS:=hS.fS p;refine al hS fun a hS=>?_;rcases cd hM with⟨B,hM⟩|⟨B,hM⟩
  ·refine al hS fun a hS=>?_;rcases cd hM with⟨i,hM⟩|⟨i,hM⟩
   ·refine al hS fun a hS=>?_;obtain⟨V,o,hM⟩:=bd hM;refine wg hS rfl rfl rfl i (bD (R:=aw) hS w8 rV rfl rfl 2 rfl o rfl fun I X N C a hS=>?_);obtain⟨a2,rfl,q⟩:=C;replace hS:=hS.fS q;exact fz
   exact fz
  exact fz
 rintro a w ⟨d,hS,hM⟩;unfold lr at hM;refine aJ (J:=fun a w=>∃ (h:Int),St W0 No T 60 [(6,aj d),(7,aj h)] [] [] a w∧lq d h=some y) ?_ ?_
 ·skip;refine al hS fun a hS=>?_;obtain⟨r1,k,hMo1⟩:=bd hM;refine bB _ (fun s a w=>∃ (f:Int),f=s∧St W0 No T 60 [(0,g),(1,aj c),(6,aj d),(7,aj f)] [] [aK aw g b] a w) k ⟨_,rfl,hS.mt [] [0]⟩ ?_;rintro s a w u ⟨f,rfl,hS⟩ hM hf1;have hM:fk b c f=some u:=hM;unfold fk at hM;refine aA ?_;refine i1 ?_;refine al hS fun a hS=>?_;obtain⟨Q,l,hM⟩:=bd hM;refine wl rfl (bD (R:=aw) hS w8 rV rfl rfl 0 rfl l rfl fun K Y O D a hS=>?_);obtain⟨a3,rfl,r⟩:=D;replace hS:=hS.fS r;refine al hS fun a hS=>?_;rcases cd hM with⟨E,hM⟩|⟨E,hM⟩
  ·refine al hS fun a hS=>?_;rcases cd hM with⟨j,hM⟩|⟨j,hM⟩
   ·refine al hS fun a hS=>?_;obtain⟨S,m,hM⟩:=bd hM;refine wg hS rfl rfl rfl j (bD (R:=aw) hS w8 rV rfl rfl 2 rfl m rfl fun L Z P F a hS=>?_);obtain⟨a4,rfl,t⟩:=F;replace hS:=hS.fS t;exact fz
   exact fz
  exact fz
 rintro a w ⟨h,hS,hM⟩;unfold lq at hM;refine al hS fun a hS=>?_;cases hM
 refine aH hS Tryz.results85 (az hS rfl (az hS rfl aF)) ?_;exact rfl
def mp (d:LU) (b:LN) (c:Int):Option (LU×aW):=some ((d,(aW.mk b c)))
def pg (d:Int) (e:LU) (b:LN) (c:Int):Option (Fl (LU×Int×LN×Int) (LU×LN×Int)):=some (.go (e,IntKind.i64.wrap (d+1),b,c))
def mq (c:LU) (b:Int) (f:Bool) (g:Int) (h:Int) (d:LN) (e:Int) (i:(List dd)):Option (Fl (LU×Int×LN×Int) (LU×LN×Int)):=(bg c b).bind fun j=>pg b (c.set (Int.toNat b) (aR.mk f i g h)) d e
def ph (d:Int) (b:LN) (c:Int) (e:(List dd)):Option (Fl (Int×LN×Int×(List dd)) (LN×Int×(List dd))):=some (.go (IntKind.i64.wrap (d-1),b,c,e))
def kL (i:Int) (b:(List dd)) (c:Bool) (d:Int) (g:LN) (h:Int) (e:Bool) (f:Int):Option (Fl (Int×LN×Int×(List dd)) (LN×Int×(List dd))):=gd (bT (b.length+([(dd.mk c e d f)]).length)) <| ph i g h (b++([(dd.mk c e d f)]))
def iR (e:Int) (f:(List dd)) (g:Bool) (j:Int) (h:Int) (i:Bool) (c:LN) (d:Int):Option (Fl (Int×LN×Int×(List dd)) (LN×Int×(List dd))):=cond i ((bJ (aW.mk c d) j).bind fun b=>kL e f g h b.2.L b.2.At true b.1) (kL e f g h c d false 0)
def kM (j:Bool) (e:Int) (b:(List dd)) (h:Bool) (f:Int) (c:LN) (d:Int) (i:Int):Option (Fl (Int×LN×Int×(List dd)) (LN×Int×(List dd))):=cond (!(j)) (cond (decide ((0:Int)<(b.length:Int))) ((bJ (aW.mk c d) 3).bind fun g=>iR e b h f i (g.1==1) g.2.L g.2.At) (iR e b h f i false c d)) (iR e b h f i false c d)
def kN (g:Bool) (f:Int) (h:(List dd)) (i:Bool) (b:Int) (k:(Int×aW)) (j:Bool) (d:LN) (e:Int):Option (Fl (Int×LN×Int×(List dd)) (LN×Int×(List dd))):=cond j ((bJ (aW.mk d e) (min b 3)).bind fun c=>kM g f h i b c.2.L c.2.At (IntKind.i64.wrap ((IntKind.i64.wrap (b-1))-c.1))) (kM g f h i b d e k.1)
def kO (g:Bool) (f:Int) (h:(List dd)) (i:LN) (j:Int) (e:Bool) (c:Int):Option (Fl (Int×LN×Int×(List dd)) (LN×Int×(List dd))):=(bJ (aW.mk i j) c).bind fun b=>cond (!(e)) ((bJ (aW.mk b.2.L b.2.At) 2).bind fun d=>kN g f h e c b (d.1==0) d.2.L d.2.At) (kN g f h e c b false b.2.L b.2.At)
def ju (h:Int) (f:Bool) (e:Int) (g:(List dd)) (c:LN) (d:Int) (b:Bool):Option (Fl (Int×LN×Int×(List dd)) (LN×Int×(List dd))):=cond b (kO f e g c d b 4) (kO f e g c d b h)
def jx (c:Int) (h:Bool) (d:Int) (f:LN) (g:Int) (e:(List dd)):Option (Fl (Int×LN×Int×(List dd)) (LN×Int×(List dd))):=cond (decide ((0:Int)<d)) ((bJ (aW.mk f g) 3).bind fun b=>cond (b.1==0) (ju c h d e b.2.L b.2.At true) (ju c h d e b.2.L b.2.At (c==0))) (some (.out (f,g,e)))
def jv (h:LU) (g:Int) (d:Int) (c:Bool) (e:LN) (f:Int) (i:Int) (j:Int):Option (Fl (LU×Int×LN×Int) (LU×LN×Int)):=(bJ (aW.mk e f) 4).bind fun b=>(loop (fun s:Int×LN×Int×(List dd)=>jx d c s.1 s.2.1 s.2.2.1 s.2.2.2) (b.1,b.2.L,b.2.At,([]:List dd))).bind fun r=>mq h g c i j r.1 r.2.1 r.2.2
def nZ (h:LU) (g:Int) (d:Int) (e:LN) (f:Int) (b:Bool) (j:Int) (k:Int):Option (Fl (LU×Int×LN×Int) (LU×LN×Int)):=cond b ((bJ (aW.mk e f) 6).bind fun c=>(bg ([0,1,2,4,8,16]) c.1).bind fun i=>jv h g d b c.2.L c.2.At 5 i) (jv h g d b e f j k)
def jw (e:LU) (d:Int) (g:LN) (h:Int) (f:Int):Option (Fl (LU×Int×LN×Int) (LU×LN×Int)):=(bg e d).bind fun i=>(bJ (aW.mk g h) 4).bind fun b=>(bJ (aW.mk b.2.L b.2.At) 6).bind fun c=>nZ e d f c.2.L c.2.At i.Ring (IntKind.i64.wrap (1+b.1)) c.1
def jy (h:LU) (c:LU) (b:Int) (d:LN) (e:Int):Option (Fl (LU×Int×LN×Int) (LU×LN×Int)):=cond (decide (b<(h.length:Int))) ((ny c b).bind fun f=>(bg c b).bind fun g=>cond (!(g.Ring)) (jw c b d e f.1) (jw c b d e f.2)) (some (.out (c,d,e)))
def li (b:LU) (c:LN) (d:Int):Option (LU×aW):=(loop (fun s:LU×Int×LN×Int=>jy b s.1 s.2.1 s.2.2.1 s.2.2.2) (b,0,c,d)).bind fun r=>mp r.1 r.2.1 r.2.2
def n3 (c:LU) (f:Int) (d:LN) (e:Int):Option (Fl (LU×Int×LN×Int) (LU×LN×Int)):=cond (decide ((0:Int)<f)) ((bJ (aW.mk d e) 3).bind fun b=>gd (bT (c.length+([(aR.mk (b.1==1) ([]) 0 0)]).length)) <| some (.go ((c++([(aR.mk (b.1==1) ([]) 0 0)])),IntKind.i64.wrap (f-1),b.2.L,b.2.At))) (some (.out (c,d,e)))
def ri (c:aW):Option (LU×aW):=(bJ c 7).bind fun b=>(loop (fun s:LU×Int×LN×Int=>n3 s.1 s.2.1 s.2.2.1 s.2.2.2) (([]:List aR),IntKind.i64.wrap (2+b.1),b.2.L,b.2.At)).bind fun r=>li r.1 r.2.1 r.2.2
theorem BE (T:Nat→Prop) (W0:World) (hT:TW T W0) (co:aW) (h:Value) (e:Nat) (ja:W0.heap[e]? = some (.cells (a6 co h).toArray 73 (0,0))) (hY:¬ T e) (js:aD (aS.int .i64) (dT T [.box e (a6 co h) 73]) W0 h co.L) (y:LU×aW) (hM:ri co=some y):bc aQ (fun k=>k=e) 56 [pt e 0] W0 (fun v w'=>∃ (v3:Value) (wO:bh) (v5:Value),v=v3∧ip aw T W0 w' [bU v3 wO,.box e (a6 y.2 v5) 73] 115 v3 wO y.1∧w'.heap[e]? = some (.cells (a6 y.2 v5).toArray 73 (0,0))∧aD (aS.int .i64) (dT T [bU v3 wO,.box e (a6 y.2 v5) 73]) w' v5 y.2.L∧h=v5):=by
 refine rY (c:=_) Tryz.func56 rfl T 132 Tryz.ntmps56 hT rfl ja hY fun a hS=>?_;replace hS:=hS.fS js;unfold ri at hM;refine al hS fun a hS=>?_;refine aJ (J:=fun a w=>∃ (r:LU) (e6:LN) (ea:Int) (d:Value) (d0:LV),St W0 (fun k=>k=e) T 132 [(0,pt e 0),(3,d)] [bU d d0,.box e [h,aj ea] 73] [ao aw d0 r,aK (aS.int .i64) h e6] a w∧li r e6 ea=some y) ?_ ?_
 ·skip;refine al hS fun a hS=>?_;obtain⟨ih,h8,hM⟩:=bd hM;refine wl rfl (cn hS lO rfl rfl 0 rfl (bn _ _ (hS.drop 0).dlt co 7 _ _ (hS.boxRow 0 rfl) (hS.notin 0 rfl) (aD.lent (i:=0) rfl (hS.get 0 rfl)) _ h8) fun _ w hR hk=>?_);obtain⟨m1,he,hrow,fl,bl⟩:=hR;obtain rfl:=he.symm;subst bl;refine⟨(a6 ih.2 h),hrow,fun a hS=>?_⟩;replace hS:=hS.fS (aD.back (i:=0) rfl fl);refine al hS fun a hS=>?_;replace hS:=hS.nilRow aw 115 (by decide);obtain⟨r1,gb,hMo1⟩:=bd hM;refine bB _ (fun s a w=>∃ (a1:LU) (ca:Int) (Y:LN) (Z:Int) (et:Value) (d1:LV),(a1,ca,Y,Z)=s∧St W0 (fun k=>k=e) T 132 [(0,pt e 0),(3,et),(4,aj ca)] [bU et d1,.box e [h,aj Z] 73] [ao aw d1 a1,aK (aS.int .i64) h Y] a w) gb ⟨_,_,_,_,_,_,rfl,hS.mt [0,1] [0,1]⟩ ?_;rintro s a w f1 ⟨a1,ca,Y,Z,et,d1,rfl,hS⟩ hM hf1;have hM:n3 a1 ca Y Z=some f1:=hM;unfold n3 at hM;refine aA ?_;refine al hS fun a hS=>?_;rcases cd hM with⟨hn,hM⟩|⟨hn,hM⟩
  ·refine al hS fun a hS=>?_;refine aA ?_;refine al hS fun a hS=>?_;obtain⟨M,h7,hM⟩:=bd hM;refine wl rfl (cn hS lO rfl rfl 1 rfl (bn _ _ (hS.drop 1).dlt (aW.mk Y Z) 3 _ _ (hS.boxRow 1 rfl) (hS.notin 1 rfl) (aD.lent (i:=1) rfl (hS.get 1 rfl)) _ h7) fun _ w hR hk=>?_);obtain⟨m2,he,hrow,fn,bs⟩:=hR;obtain rfl:=he.symm;subst bs;refine⟨(a6 M.2 h),hrow,fun a hS=>?_⟩;replace hS:=hS.fS (aD.back (i:=1) rfl fn);refine al hS fun a hS=>?_;refine qy hS (bE (ps:=[(0,.tmp 22)]) hS EN tz rfl (us:=[[.bool (M.1==1)]]) ⟨rfl,trivial⟩ (ws:=[.bool (M.1==1),.slice none 0 0,aj 0,aj 0]) rfl) fun a hS=>?_;refine wl rfl (bf (ps:=[(0,.tmp 23)]) hS Il tz (zl:=[.bool false,.slice none 0 0,aj 0,aj 0]) (by kernel_rfl) rfl (us:=[[.bool (M.1==1),.slice none 0 0,aj 0,aj 0]]) ⟨rfl,trivial⟩ (ws:=[.bool (M.1==1),.slice none 0 0,aj 0,aj 0]) rfl rfl rfl rfl fun k0 a w hk hS=>?_);replace hS:=(hS.lit (R:=aw) (us:=[.bool (M.1==1),.slice none 0 0,aj 0,aj 0]) (xs:=[(aR.mk (M.1==1) ([]) 0 0)]) 0 rfl (by decide) (aB.one_ (R:=aw) (x:=(aR.mk (M.1==1) ([]) 0 0)) (⟨_,rfl,aD.nil_ _ _ _⟩)) rfl rfl).freeze (R:=aw) 0 rfl 0 rfl;obtain⟨ho,hM⟩:=bo hM;refine wl rfl (bM (R:=aw) (xs:=a1) (ys:=[(aR.mk (M.1==1) ([]) 0 0)]) hS Il (by decide) (by decide) rfl rfl 0 rfl 3 rfl 0 rfl ho rfl fun m3 kl a w hk hS=>?_);refine al hS fun a hS=>?_;exact⟨_,(cR hM).symm,_,_,_,_,_,_,rfl,hS.mt [0,1] [0,3]⟩
  refine al hS fun a hS=>?_;cases hM
  have hr:=hf1 _ rfl;subst hr;have hM:li a1 Y Z=some y:=hMo1;exact⟨_,_,_,_,_,hS.mt [0,1] [0,1],hM⟩
 rintro a w ⟨r,e6,ea,d,d0,hS,hM⟩;unfold li at hM;refine aJ (J:=fun a w=>∃ (el:LU) (d5:LN) (d6:Int) (bt:LV),St W0 (fun k=>k=e) T 132 [(3,d)] [bU d bt,.box e [h,aj d6] 73] [ao aw bt el,aK (aS.int .i64) h d5] a w∧mp el d5 d6=some y) ?_ ?_
 ·skip;refine al hS fun a hS=>?_;obtain⟨r1,gb,hMo1⟩:=bd hM;refine bB _ (fun s a w=>∃ (m:LU) (b:Int) (I:LN) (K:Int) (g:LV),(m,b,I,K)=s∧St W0 (fun k=>k=e) T 132 [(0,pt e 0),(3,d),(27,aj (r.length:Int)),(28,aj b)] [bU d g,.box e [h,aj K] 73] [ao aw g m,aK (aS.int .i64) h I] a w) gb ⟨_,_,_,_,_,rfl,hS.mt [0,1] [0,1]⟩ ?_;rintro s a w f1 ⟨m,b,I,K,g,rfl,hS⟩ hM hf1;have hM:jy r m b I K=some f1:=hM;unfold jy at hM;refine al hS fun a hS=>?_;refine aA ?_;rcases cd hM with⟨hp,hM⟩|⟨hp,hM⟩
  ·refine al hS fun a hS=>?_;refine aJ (J:=fun a w=>∃ (em:LU) (dl:LN) (dn:Int) (d2:LV),St W0 (fun k=>k=e) T 132 [(0,pt e 0),(3,d),(27,aj (r.length:Int)),(28,aj b)] [bU d d2,.box e [h,aj dn] 73] [ao aw d2 em,aK (aS.int .i64) h dl] a w∧pg b em dl dn=some f1) ?_ ?_
   ·skip;refine al hS fun a hS=>?_;have hL:=hS;replace hL:=hL.freeze (R:=aw) 0 rfl 0 rfl;obtain⟨m0,h6,hM⟩:=bd hM;refine kc hS MO (uW _ _ hL.dlt m b _ (hL.get 0 rfl) _ h6) fun _ w hR a hk hA=>?_;obtain rfl:=hR;have hS:=bS hA;refine al hS fun a hS=>?_;refine aJ (J:=fun a w=>∃ (o:Int),St W0 (fun k=>k=e) T 132 [(0,pt e 0),(3,d),(5,aj b),(7,aj o),(27,aj (r.length:Int)),(28,aj b)] [bU d g,.box e [h,aj K] 73] [ao aw g m,aK (aS.int .i64) h I] a w∧jw m b I K o=some f1) ?_ ?_
    ·skip;refine al hS fun a hS=>?_;obtain⟨hm,gx,hM⟩:=bd hM;refine wl rfl (cU (R:=aw) hS w8 rV rfl rfl 0 rfl 0 rfl gx rfl fun k1 le ls ks hq hs ht a hS=>?_);obtain⟨m4,rfl,ha⟩:=hq;replace hS:=hS.fS ha;refine al hS fun a hS=>?_;refine qy hS (bp (k:=0) hS LQ 0 rfl hs ht rfl id (us:=[.bool hm.Ring]) rfl rfl (fun _=>rfl)) fun a hS=>?_;exact fz
    rintro a w ⟨o,hS,hM⟩;unfold jw at hM;refine aJ (J:=fun a w=>∃ (a3:LN) (a4:Int) (n:Bool) (eq:Int) (er:Int) (f:Nat),St W0 (fun k=>k=e) T 132 [(0,pt e 0),(3,d),(5,aj b),(7,aj o),(8,pt f 0),(27,aj (r.length:Int)),(28,aj b)] [bU d g,.box e [h,aj a4] 73,.box f [.bool n,.slice none 0 0,aj eq,aj er] 115] [ao aw g m,aK (aS.int .i64) h a3] a w∧nZ m b o a3 a4 n eq er=some f1) ?_ ?_
    ·skip;obtain⟨N196,gs⟩:∃ N,N=w.heap.size:=⟨_,rfl⟩;replace hS:=hS.fact (Ds N196) (qh gs);refine dr [(6,.blk (some e)),(9,.blk (some e)),(12,.new N196)] hS fun w hQ hS=>?_;refine gE [0,1] hS fun a hS=>?_;obtain⟨G,gu,hM⟩:=bd hM;obtain⟨hf,i0,lt,kt,hu,ek,hv,hw⟩:=bP (R:=aw) hS w8 rV 0 rfl 1 rfl gu;obtain⟨md,rfl,hb⟩:=hu;replace hS:=hS.fS hb;refine dy 2 (v:=pt hf i0) rfl (by kernel_rfl) (by kernel_rfl) (by kernel_rfl) rfl hQ hS (hw rfl rfl) rfl rfl rfl fun a hS=>?_;refine gE [3] hS fun a hS=>?_;refine dy (l:=[.blk (some e),.blk (some e)]) 4 (v:=.bool G.Ring) rfl (by kernel_rfl) (by kernel_rfl) (by kernel_rfl) (by kernel_rfl) hQ hS (bp (k:=0) hS LQ 0 rfl ek hv rfl (iZ hS 0 rfl (wh ek) 1 rfl rfl (by decide) (iZ hS 0 rfl (wh ek) 1 rfl rfl (by decide) br)) (us:=[.bool G.Ring]) rfl rfl (fun _=>rfl)) rfl rfl rfl fun a hS=>?_;refine gE [5,8] hS fun a hS=>?_;obtain⟨u,f3,hM⟩:=bd hM;refine di (i:=6) (j:=11) rfl rfl (by kernel_rfl) rfl rfl ?_ ?_
     ·skip;skip;refine id (cn hS lO rfl rfl 1 rfl (bn _ _ (hS.drop 1).dlt (aW.mk I K) 4 _ _ (hS.boxRow 1 rfl) (hS.notin 1 rfl) (aD.lent (i:=1) rfl (hS.get 3 rfl)) _ f3) fun _ w hR hk=>?_);obtain⟨ms,he,hrow,fr,b9⟩:=hR;obtain rfl:=he.symm;subst b9;refine⟨(a6 u.2 h),hrow,fun a hS=>⟨jl rfl hk jn,?_⟩⟩;replace hS:=hS.fS (aD.back (i:=1) rfl fr);refine gE [7] hS fun a hS=>?_;obtain⟨Q,f4,hM⟩:=bd hM;refine di (i:=9) (j:=11) rfl rfl (by kernel_rfl) rfl rfl ?_ ?_
      ·skip;skip;refine id (cn hS lO rfl rfl 1 rfl (bn _ _ (hS.drop 1).dlt (aW.mk u.2.L u.2.At) 6 _ _ (hS.boxRow 1 rfl) (hS.notin 1 rfl) (aD.lent (i:=1) rfl (hS.get 0 rfl)) _ f4) fun _ w hR hk=>?_);obtain⟨mv,he,hrow,fs,bb⟩:=hR;obtain rfl:=he.symm;subst bb;refine⟨(a6 Q.2 h),hrow,fun a hS=>⟨jl rfl hk jn,?_⟩⟩;replace hS:=hS.fS (aD.back (i:=1) rfl fs);refine dy 10 (v:=.agg #[.bool G.Ring,.slice none 0 0,aj (IntKind.i64.wrap (1+u.1)),aj Q.1]) rfl (by kernel_rfl) (by kernel_rfl) (by kernel_rfl) rfl hQ hS (bE (ps:=[(0,.tmp 48),(2,.tmp 51),(3,.tmp 53)]) hS EN tz rfl (us:=[[.bool G.Ring],[aj (IntKind.i64.wrap (1+u.1))],[aj Q.1]]) ⟨rfl,⟨rfl,⟨rfl,trivial⟩⟩⟩ (ws:=[.bool G.Ring,.slice none 0 0,aj (IntKind.i64.wrap (1+u.1)),aj Q.1]) rfl) rfl rfl rfl fun a hS=>?_;have hx:=(hS.get 3 rfl:N196≤w.heap.size);refine e1 11 (cm hS tz rfl fun hg hy a w hk hS=>⟨eS (hk),?_⟩);refine cw 12 (.blk (some hg)) _ (by kernel_rfl) (k8 (cx hx hy)) ?_;refine es 12 hS fun w hS=>?_;refine eD ?_;exact⟨_,_,_,_,_,_,hS.mt [1,2,0] [4,0],hM⟩
      skip;have hz:=(hS.get 2 rfl:N196≤w.heap.size);refine id (cm hS tz rfl fun hh hB a w hk hS=>⟨eS (hk),?_⟩);refine cw 12 (.blk (some hh)) _ (by kernel_rfl) (k8 (cx hz hB)) ?_;refine e1 9 (cn hS lO rfl rfl 2 rfl (bn _ _ (hS.drop 2).dlt (aW.mk u.2.L u.2.At) 6 _ _ (hS.boxRow 2 rfl) (hS.notin 2 rfl) (aD.lent (i:=2) rfl (hS.get 0 rfl)) _ f4) fun _ w hR hk=>?_);obtain⟨ii,he,hrow,af,H⟩:=hR;obtain rfl:=he.symm;subst H;refine⟨(a6 Q.2 h),hrow,fun a hS=>⟨jl rfl hk jn,?_⟩⟩;replace hS:=hS.fS (aD.back (i:=2) rfl af);refine dy 10 (v:=.agg #[.bool G.Ring,.slice none 0 0,aj (IntKind.i64.wrap (1+u.1)),aj Q.1]) rfl (by kernel_rfl) (by kernel_rfl) (by kernel_rfl) rfl hQ hS (bE (ps:=[(0,.tmp 48),(2,.tmp 51),(3,.tmp 53)]) hS EN tz rfl (us:=[[.bool G.Ring],[aj (IntKind.i64.wrap (1+u.1))],[aj Q.1]]) ⟨rfl,⟨rfl,⟨rfl,trivial⟩⟩⟩ (ws:=[.bool G.Ring,.slice none 0 0,aj (IntKind.i64.wrap (1+u.1)),aj Q.1]) rfl) rfl rfl rfl fun a hS=>?_;refine es 12 hS fun w hS=>?_;refine eD ?_;exact⟨_,_,_,_,_,_,hS.mt [1,2,0] [4,0],hM⟩
     skip;have hC:=(hS.get 1 rfl:N196≤w.heap.size);refine id (cm hS tz rfl fun hi hD a w hk hS=>⟨eS (hk),?_⟩);refine cw 12 (.blk (some hi)) _ (by kernel_rfl) (k8 (cx hC hD)) ?_;refine e1 6 (cn hS lO rfl rfl 2 rfl (bn _ _ (hS.drop 2).dlt (aW.mk I K) 4 _ _ (hS.boxRow 2 rfl) (hS.notin 2 rfl) (aD.lent (i:=2) rfl (hS.get 3 rfl)) _ f3) fun _ w hR hk=>?_);obtain⟨n0,he,hrow,fM,bi⟩:=hR;obtain rfl:=he.symm;subst bi;refine⟨(a6 u.2 h),hrow,fun a hS=>⟨jl rfl hk jn,?_⟩⟩;replace hS:=hS.fS (aD.back (i:=2) rfl fM);refine gE [7] hS fun a hS=>?_;obtain⟨ck,h9,hM⟩:=bd hM;refine e1 9 (cn hS lO rfl rfl 2 rfl (bn _ _ (hS.drop 2).dlt (aW.mk u.2.L u.2.At) 6 _ _ (hS.boxRow 2 rfl) (hS.notin 2 rfl) (aD.lent (i:=2) rfl (hS.get 0 rfl)) _ h9) fun _ w hR hk=>?_);obtain⟨ii,he,hrow,af,H⟩:=hR;obtain rfl:=he.symm;subst H;refine⟨(a6 ck.2 h),hrow,fun a hS=>⟨jl rfl hk jn,?_⟩⟩;replace hS:=hS.fS (aD.back (i:=2) rfl af);refine dy 10 (v:=.agg #[.bool G.Ring,.slice none 0 0,aj (IntKind.i64.wrap (1+u.1)),aj ck.1]) rfl (by kernel_rfl) (by kernel_rfl) (by kernel_rfl) rfl hQ hS (bE (ps:=[(0,.tmp 48),(2,.tmp 51),(3,.tmp 53)]) hS EN tz rfl (us:=[[.bool G.Ring],[aj (IntKind.i64.wrap (1+u.1))],[aj ck.1]]) ⟨rfl,⟨rfl,⟨rfl,trivial⟩⟩⟩ (ws:=[.bool G.Ring,.slice none 0 0,aj (IntKind.i64.wrap (1+u.1)),aj ck.1]) rfl) rfl rfl rfl fun a hS=>?_;refine es 12 hS fun w hS=>?_;refine eD ?_;exact⟨_,_,_,_,_,_,hS.mt [1,2,0] [4,0],hM⟩
    rintro a w ⟨a3,a4,n,eq,er,f,hS,hM⟩;unfold nZ at hM;refine aJ (J:=fun a w=>∃ (c5:LN) (c6:Int) (z:Int) (A:Int),St W0 (fun k=>k=e) T 132 [(0,pt e 0),(3,d),(5,aj b),(7,aj o),(8,pt f 0),(27,aj (r.length:Int)),(28,aj b)] [bU d g,.box e [h,aj c6] 73,.box f [.bool n,.slice none 0 0,aj z,aj A] 115] [ao aw g m,aK (aS.int .i64) h c5] a w∧jv m b o n c5 c6 z A=some f1) ?_ ?_
    ·skip;refine al hS fun a hS=>?_;rcases cd hM with⟨hE,hM⟩|⟨hE,hM⟩
     ·refine al hS fun a hS=>?_;refine dr [(2,.blk (some e)),(6,.blk (some f)),(8,.blk (some f))] hS fun w hQ hS=>?_;refine gE [1,5] hS fun a hS=>?_;obtain⟨gi,ey,hM⟩:=bd hM;refine di (i:=0) (j:=2) rfl rfl (by kernel_rfl) rfl rfl ?_ ?_
      ·skip;skip;refine id (bf (ps:=[(0,.const (aj 0)),(1,.const (aj 1)),(2,.const (aj 2)),(3,.const (aj 4)),(4,.const (aj 8)),(5,.const (aj 16))]) hS Fs L1 (zl:=[aj 0,aj 0,aj 0,aj 0,aj 0,aj 0]) (by kernel_rfl) rfl (us:=[[aj 0],[aj 1],[aj 2],[aj 4],[aj 8],[aj 16]]) ⟨rfl,⟨rfl,⟨rfl,⟨rfl,⟨rfl,⟨rfl,trivial⟩⟩⟩⟩⟩⟩ (ws:=[aj 0,aj 1,aj 2,aj 4,aj 8,aj 16]) rfl rfl rfl rfl fun k2 a w hk hS=>⟨eS (hk),?_⟩);refine e1 2 (cn hS lO rfl rfl 2 rfl (bn _ _ (hS.drop 2).dlt (aW.mk a3 a4) 6 _ _ (hS.boxRow 2 rfl) (hS.notin 2 rfl) (aD.lent (i:=2) rfl (hS.get 1 rfl)) _ ey) fun _ w hR hk=>?_);obtain⟨n1,he,hrow,g0,b8⟩:=hR;obtain rfl:=he.symm;subst b8;refine⟨(a6 gi.2 h),hrow,fun a hS=>⟨jl rfl hk jn,?_⟩⟩;replace hS:=((hS.fS (aD.back (i:=2) rfl g0)).lit (R:=(aS.int .i64)) (us:=[aj 0,aj 1,aj 2,aj 4,aj 8,aj 16]) (xs:=[0,1,2,4,8,16]) 0 rfl (by decide) ((aB.one_ (R:=(aS.int .i64)) (x:=0) rfl).append ((aB.one_ (R:=(aS.int .i64)) (x:=1) rfl).append ((aB.one_ (R:=(aS.int .i64)) (x:=2) rfl).append ((aB.one_ (R:=(aS.int .i64)) (x:=4) rfl).append ((aB.one_ (R:=(aS.int .i64)) (x:=8) rfl).append (aB.one_ (R:=(aS.int .i64)) (x:=16) rfl)))))) rfl rfl).freeze (R:=(aS.int .i64)) 0 rfl 0 rfl;obtain⟨a0,S,hM⟩:=bd hM;obtain⟨a2,ag,f6,a5,a9,hS⟩:=mP (R:=(aS.int .i64)) hS DW zB 0 rfl S;obtain rfl:=a5;refine dy 3 (v:=pt a2 ag) rfl (by kernel_rfl) (by kernel_rfl) (by kernel_rfl) rfl hQ hS (a9 rfl rfl) rfl rfl rfl fun a hS=>?_;refine dy (l:=[.blk (some f)]) 4 (v:=aj a0) rfl (by kernel_rfl) (by kernel_rfl) (by kernel_rfl) (by kernel_rfl) hQ hS (wI (k:=0) hS zB 0 rfl rfl (JR 2 rfl rfl DJ) (us:=[aj a0]) rfl rfl (fun _=>rfl)) rfl rfl rfl fun a hS=>?_;refine es 6 hS fun w hS=>?_;refine gE [7] hS fun a hS=>?_;refine es 8 hS fun w hS=>?_;refine eD ?_;exact⟨_,_,_,_,hS.mt [0,1,2] [4,3],hM⟩
      skip;refine id (cn hS lO rfl rfl 1 rfl (bn _ _ (hS.drop 1).dlt (aW.mk a3 a4) 6 _ _ (hS.boxRow 1 rfl) (hS.notin 1 rfl) (aD.lent (i:=1) rfl (hS.get 1 rfl)) _ ey) fun _ w hR hk=>?_);obtain⟨n2,he,hrow,g1,b6⟩:=hR;obtain rfl:=he.symm;subst b6;refine⟨(a6 gi.2 h),hrow,fun a hS=>⟨jl rfl hk jn,?_⟩⟩;replace hS:=hS.fS (aD.back (i:=1) rfl g1);refine di (i:=0) (j:=6) rfl rfl (by kernel_rfl) rfl rfl ?_ ?_
      ·skip;skip;refine id (bf (ps:=[(0,.const (aj 0)),(1,.const (aj 1)),(2,.const (aj 2)),(3,.const (aj 4)),(4,.const (aj 8)),(5,.const (aj 16))]) hS Fs L1 (zl:=[aj 0,aj 0,aj 0,aj 0,aj 0,aj 0]) (by kernel_rfl) rfl (us:=[[aj 0],[aj 1],[aj 2],[aj 4],[aj 8],[aj 16]]) ⟨rfl,⟨rfl,⟨rfl,⟨rfl,⟨rfl,⟨rfl,trivial⟩⟩⟩⟩⟩⟩ (ws:=[aj 0,aj 1,aj 2,aj 4,aj 8,aj 16]) rfl rfl rfl rfl fun hj a w hk hS=>⟨eS (hk),?_⟩);replace hS:=(hS.lit (R:=(aS.int .i64)) (us:=[aj 0,aj 1,aj 2,aj 4,aj 8,aj 16]) (xs:=[0,1,2,4,8,16]) 0 rfl (by decide) ((aB.one_ (R:=(aS.int .i64)) (x:=0) rfl).append ((aB.one_ (R:=(aS.int .i64)) (x:=1) rfl).append ((aB.one_ (R:=(aS.int .i64)) (x:=2) rfl).append ((aB.one_ (R:=(aS.int .i64)) (x:=4) rfl).append ((aB.one_ (R:=(aS.int .i64)) (x:=8) rfl).append (aB.one_ (R:=(aS.int .i64)) (x:=16) rfl)))))) rfl rfl).freeze (R:=(aS.int .i64)) 0 rfl 0 rfl;obtain⟨a0,S,hM⟩:=bd hM;obtain⟨a2,ag,f6,a5,a9,hS⟩:=mP (R:=(aS.int .i64)) hS DW zB 0 rfl S;obtain rfl:=a5;refine dy 3 (v:=pt a2 ag) rfl (by kernel_rfl) (by kernel_rfl) (by kernel_rfl) rfl hQ hS (a9 rfl rfl) rfl rfl rfl fun a hS=>?_;refine dy (l:=[.blk (some f)]) 4 (v:=aj a0) rfl (by kernel_rfl) (by kernel_rfl) (by kernel_rfl) (by kernel_rfl) hQ hS (wI (k:=0) hS zB 0 rfl rfl (JR 2 rfl rfl DJ) (us:=[aj a0]) rfl rfl (fun _=>rfl)) rfl rfl rfl fun a hS=>?_;refine es 6 hS fun w hS=>?_;refine gE [7] hS fun a hS=>?_;refine es 8 hS fun w hS=>?_;refine eD ?_;exact⟨_,_,_,_,hS.mt [0,1,2] [4,3],hM⟩
      skip;refine id (sV hS rfl rfl (us:=[aj 5]) rfl zB 2 rfl rfl rfl (oc rfl on) fun w hk hS=>⟨jl rfl hk jn,?_⟩);refine e1 0 (bf (ps:=[(0,.const (aj 0)),(1,.const (aj 1)),(2,.const (aj 2)),(3,.const (aj 4)),(4,.const (aj 8)),(5,.const (aj 16))]) hS Fs L1 (zl:=[aj 0,aj 0,aj 0,aj 0,aj 0,aj 0]) (by kernel_rfl) rfl (us:=[[aj 0],[aj 1],[aj 2],[aj 4],[aj 8],[aj 16]]) ⟨rfl,⟨rfl,⟨rfl,⟨rfl,⟨rfl,⟨rfl,trivial⟩⟩⟩⟩⟩⟩ (ws:=[aj 0,aj 1,aj 2,aj 4,aj 8,aj 16]) rfl rfl rfl rfl fun hj a w hk hS=>⟨eS (hk),?_⟩);replace hS:=(hS.lit (R:=(aS.int .i64)) (us:=[aj 0,aj 1,aj 2,aj 4,aj 8,aj 16]) (xs:=[0,1,2,4,8,16]) 0 rfl (by decide) ((aB.one_ (R:=(aS.int .i64)) (x:=0) rfl).append ((aB.one_ (R:=(aS.int .i64)) (x:=1) rfl).append ((aB.one_ (R:=(aS.int .i64)) (x:=2) rfl).append ((aB.one_ (R:=(aS.int .i64)) (x:=4) rfl).append ((aB.one_ (R:=(aS.int .i64)) (x:=8) rfl).append (aB.one_ (R:=(aS.int .i64)) (x:=16) rfl)))))) rfl rfl).freeze (R:=(aS.int .i64)) 0 rfl 0 rfl;obtain⟨a0,S,hM⟩:=bd hM;obtain⟨a2,ag,f6,a5,a9,hS⟩:=mP (R:=(aS.int .i64)) hS DW zB 0 rfl S;obtain rfl:=a5;refine dy 3 (v:=pt a2 ag) rfl (by kernel_rfl) (by kernel_rfl) (by kernel_rfl) rfl hQ hS (a9 rfl rfl) rfl rfl rfl fun a hS=>?_;refine gE [4,7] hS fun a hS=>?_;refine es 8 hS fun w hS=>?_;refine eD ?_;exact⟨_,_,_,_,hS.mt [0,1,2] [4,3],hM⟩
     exact fz
    rintro a w ⟨c5,c6,z,A,hS,hM⟩;unfold jv at hM;refine aJ (J:=fun a w=>∃ (ds:LN) (e0:Int) (ch:(List dd)) (cl:Value) (d3:LV),St W0 (fun k=>k=e) T 132 [(0,pt e 0),(3,d),(5,aj b),(8,pt f 0),(27,aj (r.length:Int)),(28,aj b)] [bU d g,.box e [h,aj e0] 73,we cl d3,.box f [.bool n,cl,aj z,aj A] 115] [ao aw g m,aK (aS.int .i64) h ds,ao eU d3 ch] a w∧mq m b n z A ds e0 ch=some f1) ?_ ?_
    ·skip;refine al hS fun a hS=>?_;obtain⟨ib,h5,hM⟩:=bd hM;refine wl rfl (cn hS lO rfl rfl 1 rfl (bn _ _ (hS.drop 1).dlt (aW.mk c5 c6) 4 _ _ (hS.boxRow 1 rfl) (hS.notin 1 rfl) (aD.lent (i:=1) rfl (hS.get 1 rfl)) _ h5) fun _ w hR hk=>?_);obtain⟨na,he,hrow,g2,an⟩:=hR;obtain rfl:=he.symm;subst an;refine⟨(a6 ib.2 h),hrow,fun a hS=>?_⟩;replace hS:=hS.fS (aD.back (i:=1) rfl g2);refine al hS fun a hS=>?_;replace hS:=hS.nilRow eU 119 (by decide);obtain⟨r2,jb,hMo2⟩:=bd hM;refine bB _ (fun s a w=>∃ (q:Int) (W:LN) (X:Int) (t:(List dd)) (C:Value) (B:LV),(q,W,X,t)=s∧St W0 (fun k=>k=e) T 132 [(0,pt e 0),(3,d),(5,aj b),(7,aj o),(8,pt f 0),(9,aj q),(27,aj (r.length:Int)),(28,aj b)] [bU d g,.box e [h,aj X] 73,we C B,.box f [.bool n,C,aj z,aj A] 115] [ao aw g m,aK (aS.int .i64) h W,ao eU B t] a w) jb ⟨_,_,_,_,_,_,rfl,hS.mt [1,2,0,3] [2,1,0]⟩ ?_;rintro s a w f2 ⟨q,W,X,t,C,B,rfl,hS⟩ hM hf2;have hM:jx o n q W X t=some f2:=hM;unfold jx at hM;refine aA ?_;refine al hS fun a hS=>?_;rcases cd hM with⟨hF,hM⟩|⟨hF,hM⟩
     ·refine al hS fun a hS=>?_;refine aJ (J:=fun a w=>∃ (e2:LN) (e3:Int) (ep:(List dd)) (ew:Value) (d4:LV),St W0 (fun k=>k=e) T 132 [(0,pt e 0),(3,d),(5,aj b),(7,aj o),(8,pt f 0),(9,aj q),(27,aj (r.length:Int)),(28,aj b)] [bU d g,.box e [h,aj e3] 73,we ew d4,.box f [.bool n,ew,aj z,aj A] 115] [ao aw g m,aK (aS.int .i64) h e2,ao eU d4 ep] a w∧ph q e2 e3 ep=some f2) ?_ ?_
      ·skip;refine al hS fun a hS=>?_;refine aJ (J:=fun a w=>∃ (U:LN) (V:Int) (p:Bool) (D:Nat),St W0 (fun k=>k=e) T 132 [(0,pt e 0),(3,d),(5,aj b),(7,aj o),(8,pt f 0),(9,aj q),(10,pt D 0),(27,aj (r.length:Int)),(28,aj b)] [bU d g,.box e [h,aj V] 73,we C B,.box f [.bool n,C,aj z,aj A] 115,.box D [.bool p,.bool false,aj 0,aj 0] 119] [ao aw g m,aK (aS.int .i64) h U,ao eU B t] a w∧ju o n q t U V p=some f2) ?_ ?_
       ·skip;refine al hS fun a hS=>?_;obtain⟨i9,h4,hM⟩:=bd hM;refine wl rfl (cn hS lO rfl rfl 1 rfl (bn _ _ (hS.drop 1).dlt (aW.mk W X) 3 _ _ (hS.boxRow 1 rfl) (hS.notin 1 rfl) (aD.lent (i:=1) rfl (hS.get 1 rfl)) _ h4) fun _ w hR hk=>?_);obtain⟨nb,he,hrow,g3,b5⟩:=hR;obtain rfl:=he.symm;subst b5;refine⟨(a6 i9.2 h),hrow,fun a hS=>?_⟩;replace hS:=hS.fS (aD.back (i:=1) rfl g3);refine al hS fun a hS=>?_;rcases cd hM with⟨hG,hM⟩|⟨hG,hM⟩
        ·refine al hS fun a hS=>?_;refine qy hS (bE (ps:=[(0,.tmp 76)]) hS JV zS rfl (us:=[[.bool true]]) ⟨rfl,trivial⟩ (ws:=[.bool true,.bool false,aj 0,aj 0]) rfl) fun a hS=>?_;refine ka hS zS fun k3 l3 a w hk hS=>?_;exact fz
        refine al hS fun a hS=>?_;refine qy hS (bE (ps:=[(0,.tmp 76)]) hS JV zS rfl (us:=[[.bool (o==0)]]) ⟨rfl,trivial⟩ (ws:=[.bool (o==0),.bool false,aj 0,aj 0]) rfl) fun a hS=>?_;refine ka hS zS fun k4 la a w hk hS=>?_;exact fz
       rintro a w ⟨U,V,p,D,hS,hM⟩;unfold ju at hM;refine al hS fun a hS=>?_;refine aJ (J:=fun a w=>∃ (F:Int),St W0 (fun k=>k=e) T 132 [(0,pt e 0),(3,d),(5,aj b),(7,aj o),(8,pt f 0),(9,aj q),(10,pt D 0),(11,aj F),(27,aj (r.length:Int)),(28,aj b)] [bU d g,.box e [h,aj V] 73,we C B,.box f [.bool n,C,aj z,aj A] 115,.box D [.bool p,.bool false,aj 0,aj 0] 119] [ao aw g m,aK (aS.int .i64) h U,ao eU B t] a w∧kO n q t U V p F=some f2) ?_ ?_
       ·exact fz
       rintro a w ⟨F,hS,hM⟩;unfold kO at hM;refine al hS fun a hS=>?_;obtain⟨ak,h1,hM⟩:=bd hM;refine wl rfl (cn hS lO rfl rfl 1 rfl (bn _ _ (hS.drop 1).dlt (aW.mk U V) F _ _ (hS.boxRow 1 rfl) (hS.notin 1 rfl) (aD.lent (i:=1) rfl (hS.get 1 rfl)) _ h1) fun _ w hR hk=>?_);obtain⟨nd,he,hrow,g4,av⟩:=hR;obtain rfl:=he.symm;subst av;refine⟨(a6 ak.2 h),hrow,fun a hS=>?_⟩;replace hS:=hS.fS (aD.back (i:=1) rfl g4);refine go hS fun a w hS=>?_;refine aJ (J:=fun a w=>∃ (c1:LN) (c2:Int) (E:Int),St W0 (fun k=>k=e) T 132 [(0,pt e 0),(3,d),(5,aj b),(7,aj o),(8,pt f 0),(9,aj q),(10,pt D 0),(11,aj F),(27,aj (r.length:Int)),(28,aj b)] [bU d g,.box e [h,aj c2] 73,we C B,.box f [.bool n,C,aj z,aj A] 115,.box D [.bool p,.bool false,aj E,aj 0] 119] [ao aw g m,aK (aS.int .i64) h c1,ao eU B t] a w∧kM n q t p F c1 c2 E=some f2) ?_ ?_
       ·skip;refine aJ (J:=fun a w=>∃ (ed:Bool) (c3:LN) (c4:Int),St W0 (fun k=>k=e) T 132 [(0,pt e 0),(3,d),(5,aj b),(7,aj o),(8,pt f 0),(9,aj q),(10,pt D 0),(11,aj F),(27,aj (r.length:Int)),(28,aj b),(92,.bool ed)] [bU d g,.box e [h,aj c4] 73,we C B,.box f [.bool n,C,aj z,aj A] 115,.box D [.bool p,.bool false,aj ak.1,aj 0] 119] [ao aw g m,aK (aS.int .i64) h c3,ao eU B t] a w∧kN n q t p F ak ed c3 c4=some f2) ?_ ?_
        ·skip;refine al hS fun a hS=>?_;rcases cd hM with⟨f7,hM⟩|⟨f7,hM⟩
         ·refine al hS fun a hS=>?_;obtain⟨i5,h3,hM⟩:=bd hM;refine wg hS rfl rfl rfl f7 (cn hS lO rfl rfl 1 rfl (bn _ _ (hS.drop 1).dlt (aW.mk ak.2.L ak.2.At) 2 _ _ (hS.boxRow 1 rfl) (hS.notin 1 rfl) (aD.lent (i:=1) rfl (hS.get 0 rfl)) _ h3) fun _ w hR hk=>?_);obtain⟨ng,he,hrow,g5,b4⟩:=hR;obtain rfl:=he.symm;subst b4;refine⟨(a6 i5.2 h),hrow,fun a hS=>?_⟩;replace hS:=hS.fS (aD.back (i:=1) rfl g5);exact fz
         exact fz
        rintro a w ⟨ed,c3,c4,hS,hM⟩;unfold kN at hM;rcases cd hM with⟨hI,hM⟩|⟨hI,hM⟩
        ·refine al hS fun a hS=>?_;refine qy hS (J6 hS rfl rfl) fun a hS=>?_;obtain⟨i4,h2,hM⟩:=bd hM;refine wl rfl (cn hS lO rfl rfl 1 rfl (bn _ _ (hS.drop 1).dlt (aW.mk c3 c4) (min F 3) _ _ (hS.boxRow 1 rfl) (hS.notin 1 rfl) (aD.lent (i:=1) rfl (hS.get 1 rfl)) _ h2) fun _ w hR hk=>?_);obtain⟨nl,he,hrow,g6,b3⟩:=hR;obtain rfl:=he.symm;subst b3;refine⟨(a6 i4.2 h),hrow,fun a hS=>?_⟩;replace hS:=hS.fS (aD.back (i:=1) rfl g6);exact fz
        exact fz
       rintro a w ⟨c1,c2,E,hS,hM⟩;unfold kM at hM;refine aJ (J:=fun a w=>∃ (e4:LN) (e5:Int) (O:Bool) (P:Int),St W0 (fun k=>k=e) T 132 [(0,pt e 0),(3,d),(5,aj b),(7,aj o),(8,pt f 0),(9,aj q),(10,pt D 0),(27,aj (r.length:Int)),(28,aj b)] [bU d g,.box e [h,aj e5] 73,we C B,.box f [.bool n,C,aj z,aj A] 115,.box D [.bool p,.bool O,aj E,aj P] 119] [ao aw g m,aK (aS.int .i64) h e4,ao eU B t] a w∧kL q t p E e4 e5 O P=some f2) ?_ ?_
       ·skip;refine aJ (J:=fun a w=>∃ (eb:Bool) (bF:LN) (c0:Int),St W0 (fun k=>k=e) T 132 [(0,pt e 0),(3,d),(5,aj b),(7,aj o),(8,pt f 0),(9,aj q),(10,pt D 0),(11,aj F),(27,aj (r.length:Int)),(28,aj b),(114,.bool eb)] [bU d g,.box e [h,aj c0] 73,we C B,.box f [.bool n,C,aj z,aj A] 115,.box D [.bool p,.bool false,aj E,aj 0] 119] [ao aw g m,aK (aS.int .i64) h bF,ao eU B t] a w∧iR q t p F E eb bF c0=some f2) ?_ ?_
        ·skip;refine al hS fun a hS=>?_;rcases cd hM with⟨hK,hM⟩|⟨hK,hM⟩
         ·refine al hS fun a hS=>?_;rcases cd hM with⟨fd,hM⟩|⟨fd,hM⟩
          ·refine al hS fun a hS=>?_;obtain⟨i3,h0,hM⟩:=bd hM;refine wg hS rfl rfl rfl fd (cn hS lO rfl rfl 1 rfl (bn _ _ (hS.drop 1).dlt (aW.mk c1 c2) 3 _ _ (hS.boxRow 1 rfl) (hS.notin 1 rfl) (aD.lent (i:=1) rfl (hS.get 1 rfl)) _ h0) fun _ w hR hk=>?_);obtain⟨nm,he,hrow,g7,b2⟩:=hR;obtain rfl:=he.symm;subst b2;refine⟨(a6 i3.2 h),hrow,fun a hS=>?_⟩;replace hS:=hS.fS (aD.back (i:=1) rfl g7);exact fz
          exact fz
         exact fz
        rintro a w ⟨eb,bF,c0,hS,hM⟩;unfold iR at hM;rcases cd hM with⟨hN,hM⟩|⟨hN,hM⟩
        ·refine al hS fun a hS=>?_;obtain⟨i2,gy,hM⟩:=bd hM;refine wl rfl (cn hS lO rfl rfl 1 rfl (bn _ _ (hS.drop 1).dlt (aW.mk bF c0) F _ _ (hS.boxRow 1 rfl) (hS.notin 1 rfl) (aD.lent (i:=1) rfl (hS.get 1 rfl)) _ gy) fun _ w hR hk=>?_);obtain⟨no,he,hrow,g8,b0⟩:=hR;obtain rfl:=he.symm;subst b0;refine⟨(a6 i2.2 h),hrow,fun a hS=>?_⟩;replace hS:=hS.fS (aD.back (i:=1) rfl g8);exact fz
        refine al hS fun a hS=>?_;exact⟨_,_,_,_,hS.mt [0,1,2,3,4] [0,1,2],hM⟩
       rintro a w ⟨e4,e5,O,P,hS,hM⟩;unfold kL at hM;refine al hS fun a hS=>?_;refine wl rfl (bf (ps:=[(0,.tmp 122)]) hS Gx zS (zl:=[.bool false,.bool false,aj 0,aj 0]) (by kernel_rfl) rfl (us:=[[.bool p,.bool O,aj E,aj P]]) ⟨rfl,trivial⟩ (ws:=[.bool p,.bool O,aj E,aj P]) rfl rfl rfl rfl fun k5 a w hk hS=>?_);replace hS:=(hS.lit (R:=eU) (us:=[.bool p,.bool O,aj E,aj P]) (xs:=[(dd.mk p O E P)]) 0 rfl (by decide) (aB.one_ (R:=eU) (x:=(dd.mk p O E P)) rfl) rfl rfl).freeze (R:=eU) 0 rfl 0 rfl;obtain⟨hP,hM⟩:=bo hM;refine wl rfl (bM (R:=eU) (xs:=t) (ys:=[(dd.mk p O E P)]) hS Gx (by decide) (by decide) rfl rfl 2 rfl 4 rfl 0 rfl hP rfl fun np l0 a w hk hS=>?_);exact fz
      rintro a w ⟨e2,e3,ep,ew,d4,hS,hM⟩;unfold ph at hM;exact fz
     refine al hS fun a hS=>?_;cases hM
     have hr:=hf2 _ rfl;subst hr;have hM:mq m b n z A W X t=some f1:=hMo2;exact⟨_,_,_,_,_,hS.mt [0,1,2,3] [0,1,2],hM⟩
    rintro a w ⟨ds,e0,ch,cl,d3,hS,hM⟩;unfold mq at hM;refine al hS fun a hS=>?_;obtain⟨hl,ex,hM⟩:=bd hM;refine wl rfl (cU (R:=aw) hS w8 rV rfl rfl 0 rfl 0 rfl ex rfl fun k6 ll lv l1 hV hW hX a hS=>?_);obtain⟨it,rfl,hc⟩:=hV;replace hS:=(hS.fS hc).freeze (R:=eU) 2 rfl 3 rfl;refine wl rfl (fW (R:=aw) (k:=0) (cs:=(uO hl it)) (us:=[.bool n,cl,aj z,aj A]) (x':=(aR.mk n ch z A)) hS rfl rfl rfl rV 0 rfl 2 rfl hW hX ex (⟨_,rfl,(hS.get 1 rfl)⟩) rfl rfl (⟨_,rfl,(hS.get 0 rfl)⟩) fun l2 w hk hS=>?_);exact fz
   rintro a w ⟨em,dl,dn,d2,hS,hM⟩;unfold pg at hM;exact fz
  refine al hS fun a hS=>?_;cases hM
  have hr:=hf1 _ rfl;subst hr;have hM:mp m I K=some y:=hMo1;exact⟨_,_,_,_,hS.mt [0,1] [0,1],hM⟩
 rintro a w ⟨el,d5,d6,bt,hS,hM⟩;unfold mp at hM;refine al hS fun a hS=>?_;cases hM
 refine aH hS rfl (az hS rfl aF) ?_;exact⟨d,bt,h,rfl,hS.retOwnm ⟨.inr (aG (i:=0) rfl),⟨.inr (aG (i:=1) rfl),trivial⟩⟩ 0 rfl 0 rfl 1 rfl (by decide),hS.boxRow 1 rfl,(aD.up ⟨.inr (aG (i:=0) rfl),⟨.inr (aG (i:=1) rfl),trivial⟩⟩ (hS.get 1 rfl)),rfl⟩
end
end
section
set_option maxRecDepth 100000
set_option maxHeartbeats 4000000
open Go.RowKit
noncomputable section
def gq (b:ab):Option ab:=gd (bT (([]:List ah).length+b.Reads.length)) <| some ((ab.mk b.Key b.Value (([]:List ah)++b.Reads) b.Changed b.Verified b.Cost b.Dirty))
theorem mX (T:Nat→Prop) (W0:World) (hT:TW T W0) (b:ab) (h:Value) (g:aD ac T W0 h b.Reads) (y:ab) (hM:gq b=some y):bc aQ No 55 [.agg (aE b h).toArray] W0 (fun v w'=>∃ (f:Value) (jT:bh),v = .agg (aE y f).toArray∧ip ac T W0 w' [ay f jT] 31 f jT y.Reads):=by
 refine en Tryz.func55 Tryz.ntmps55 hT fun a hS=>?_;replace hS:=hS.fS (aD.dn g);unfold gq at hM;refine al hS fun a hS=>?_;refine kb hS fun j l a w hk hS=>?_;refine ka hS dq fun k m a w hk hS=>?_;refine al hS fun a hS=>?_;replace hS:=hS.nilRow ac 31 (by decide);obtain⟨d,hM⟩:=bo hM;refine wl rfl (bM (R:=ac) (xs:=([]:List ah)) (ys:=b.Reads) hS gf (by decide) (by decide) rfl rfl 0 rfl 0 rfl 1 rfl d rfl fun e c a w hk hS=>?_);refine go hS fun a w hS=>?_;cases hM
 refine aH hS rfl (rC 1 hS) ?_;exact⟨e,c,rfl,hS.retOwn ⟨.inr (aG (i:=0) rfl),trivial⟩ 0 rfl 0 rfl⟩
def pj (b:LR):Option LR:=some (b)
def mz (e:LR) (c:LR) (b:Int):Option (Fl (LR×Int) (LR)):=cond (decide (b<(e.length:Int))) ((bg e b).bind fun f=>(gq f).bind fun d=>gd (bT (c.length+([d]).length)) <| some (.go ((c++([d])),IntKind.i64.wrap (b+1)))) (some (.out c))
def rp (b:LR):Option LR:=(loop (fun s:LR×Int=>mz b s.1 s.2) (([]:List ab),0)).bind fun r=>pj r
theorem BI (T:Nat→Prop) (W0:World) (hT:TW T W0) (g:LR) (q:Value) (C:aD aa T W0 q g) (y:LR) (hM:rp g=some y):bc aQ No 84 [q] W0 (fun v w'=>∃ (A:Value) (jT:bh),v=A∧ip aa T W0 w' [ae A jT] 33 A jT y):=by
 refine en Tryz.func84 Tryz.ntmps84 hT fun a hS=>?_;replace hS:=hS.fS (aD.dn C);unfold rp at hM;refine al hS fun a hS=>?_;refine aJ (J:=fun a w=>∃ (j:LR) (f:Value) (d:LV),St W0 No T 19 [(3,f)] [ae f d] [ao aa d j] a w∧pj j=some y) ?_ ?_
 ·skip;refine al hS fun a hS=>?_;replace hS:=hS.nilRow aa 33 (by decide);obtain⟨P,B,hMo1⟩:=bd hM;refine bB _ (fun s a w=>∃ (c:LR) (e:Int) (k:Value) (h:LV),(c,e)=s∧St W0 No T 19 [(3,k),(6,q),(7,aj (g.length:Int)),(8,aj e)] [ae k h] [ao aa h c,aK aa q g] a w) B ⟨_,_,_,_,rfl,hS.mt [0] [0,1]⟩ ?_;rintro s a w K ⟨c,e,k,h,rfl,hS⟩ hM hf1;have hM:mz g c e=some K:=hM;unfold mz at hM;refine al hS fun a hS=>?_;refine aA ?_;rcases cd hM with⟨t,hM⟩|⟨t,hM⟩
  ·refine al hS fun a hS=>?_;refine aA ?_;refine al hS fun a hS=>?_;obtain⟨r,n,hM⟩:=bd hM;refine wl rfl (bD (R:=aa) hS dM bZ rfl rfl 1 rfl n rfl fun D M G u a hS=>?_);obtain⟨N,rfl,p⟩:=u;replace hS:=hS.fS p;refine al hS fun a hS=>?_;refine ka hS dq fun E L a w hk hS=>?_;refine go hS fun a w hS=>?_;obtain⟨b,o,hM⟩:=bd hM;refine kc hS If (mX _ _ hS.dlt r _ (hS.get 0 rfl) _ o) fun _ w hR a hk hA=>?_;obtain⟨l,H,he,m⟩:=hR;obtain rfl:=he.symm;have hS:=qe hA m;refine wl rfl (bf (ps:=[(0,.tmp 14)]) hS rJ dq (zl:=[aj 0,a8 cr,a8 cr,.slice none 0 0,aj 0,aj 0,aj 0,.bool false]) (by kernel_rfl) rfl (us:=[(aE b l)]) ⟨rfl,trivial⟩ (ws:=(aE b l)) rfl rfl rfl rfl fun F a w hk hS=>?_);replace hS:=hS.freeze (R:=ac) 1 rfl 0 rfl;replace hS:=(hS.lit (R:=aa) (us:=(aE b l)) (xs:=[b]) 0 rfl (by decide) (aB.one_ (R:=aa) (x:=b) (⟨_,rfl,(hS.get 0 rfl)⟩)) rfl rfl).freeze (R:=aa) 0 rfl 0 rfl;obtain⟨z,hM⟩:=bo hM;refine wl rfl (bM (R:=aa) (xs:=c) (ys:=[b]) hS rJ (by decide) (by decide) rfl rfl 1 rfl 6 rfl 0 rfl z rfl fun O I a w hk hS=>?_);exact fz
  exact fz
 rintro a w ⟨j,f,d,hS,hM⟩;unfold pj at hM;refine al hS fun a hS=>?_;cases hM
 refine aH hS rfl (az hS rfl aF) ?_;exact⟨f,d,rfl,hS.retOwn ⟨.inr (aG (i:=0) rfl),trivial⟩ 0 rfl 0 rfl⟩
def eA (b:am):Option am:=gd (bT (([]:List aZ).length+b.Inputs.length)) <| (rp b.Records).bind fun c=>some ((am.mk b.Revision (([]:List aZ)++b.Inputs) c))
theorem eB (T:Nat→Prop) (W0:World) (hT:TW T W0) (b:am) (p:Value) (q:Value) (n:aD ad T W0 p b.Inputs) (o:aD aa T W0 q b.Records) (y:am) (hM:eA b=some y):bc aQ No 52 [.agg (aY b p q).toArray] W0 (fun v w'=>∃ (d:Value) (wO:bh) (e:Value) (vJ:bh),v = .agg (aY y d e).toArray∧ip ad T W0 w' [aT d wO,ae e vJ] 75 d wO y.Inputs∧ip aa T W0 w' [aT d wO,ae e vJ] 33 e vJ y.Records∧(∀ k,d.ownBlock=some k→e.ownBlock≠some k)):=by
 refine en Tryz.func52 Tryz.ntmps52 hT fun a hS=>?_;replace hS:=(hS.fS (aD.dn n)).fS (aD.dn o);unfold eA at hM;refine al hS fun a hS=>?_;refine kb hS fun r t a w hk hS=>?_;refine ka hS i8 fun s u a w hk hS=>?_;refine al hS fun a hS=>?_;replace hS:=hS.nilRow ad 75 (by decide);obtain⟨j,hM⟩:=bo hM;refine wl rfl (bM (R:=ad) (xs:=([]:List aZ)) (ys:=b.Inputs) hS Bn (by decide) (by decide) rfl rfl 0 rfl 0 rfl 2 rfl j rfl fun l g a w hk hS=>?_);refine go hS fun a w hS=>?_;obtain⟨x,f,hM⟩:=bd hM;refine kc hS Og (BI _ _ hS.dlt b.Records _ (hS.get 2 rfl) _ f) fun _ w hR a hk hA=>?_;obtain⟨m,h,he,c⟩:=hR;obtain rfl:=he.symm;have hS:=qe hA c;refine go hS fun a w hS=>?_;cases hM
 refine aH hS rfl (rC 2 hS) ?_;exact⟨l,g,m,h,rfl,hS.retOwn ⟨.inr (aG (i:=1) rfl),⟨.inr (aG (i:=0) rfl),trivial⟩⟩ 1 rfl 1 rfl,hS.retOwn ⟨.inr (aG (i:=1) rfl),⟨.inr (aG (i:=0) rfl),trivial⟩⟩ 0 rfl 0 rfl,(hS.apart2 1 rfl 0 rfl (by decide))⟩
def gC (b:Int):Option Int:=some (b)
def gD (c:ByteArray) (d:Int) (b:Int):Option (Fl (Int×Int) (Fl (Int) Int)):=cond (decide (b<(c.size:Int))) ((bg c.toList b).bind fun e=>cond (decide (((e.toNat:Int):Int)<48)) (some (.out (.out (-1)))) ((bg c.toList b).bind fun f=>cond (decide ((57:Int)<(f.toNat:Int))) (some (.out (.out (-1)))) ((bg c.toList b).bind fun g=>some (.go (IntKind.i64.wrap ((IntKind.i64.wrap (10*d))+(IntKind.i64.wrap (IntKind.u8.wrap ((g.toNat:Int)-48)))),IntKind.i64.wrap (b+1)))))) (some (.out (.go d)))
def c7 (c:ByteArray) (b:Bool):Option Int:=cond b (some ((-1))) ((loop (fun s:Int×Int=>gD c s.1 s.2) (0,0)).bind fun r=>Fl.el r (fun s=>gC s) (fun y=>some (y)))
def kP (b:ByteArray):Option Int:=cond (b.toList==cr.toList) (c7 b true) (cond (decide ((9:Int)<(b.size:Int))) (c7 b true) ((bg b.toList 0).bind fun c=>cond (((c.toNat:Int):Int)==48) (c7 b (!(b.toList==(ByteArray.mk #[48]).toList))) (c7 b false)))
theorem tq (T:Nat→Prop) (W0:World) (hT:TW T W0) (b:ByteArray) (y:Int) (hM:kP b=some y):bc aQ No 101 [a8 b] W0 (fun v w'=>v=aj y):=by
 refine en Tryz.func101 Tryz.ntmps101 hT fun a hS=>?_;unfold kP at hM;refine al hS fun a hS=>?_;refine aA ?_;refine aJ (J:=fun a w=>∃ (e:Bool),St W0 No T 46 [(0,a8 b),(20,.bool e)] [] [] a w∧c7 b e=some y) ?_ ?_
 ·skip;refine al hS fun a hS=>?_;rcases cd hM with⟨m,hM⟩|⟨m,hM⟩
  ·exact fz
  refine al hS fun a hS=>?_;rcases cd hM with⟨g,hM⟩|⟨g,hM⟩
  ·exact fz
  refine al hS fun a hS=>?_;obtain⟨x,l,hM⟩:=bd hM;refine qg hS g (BV hS Tryz.underlying9 rfl rfl l) fun a hS=>?_;exact fz
 rintro a w ⟨e,hS,hM⟩;unfold c7 at hM;rcases cd hM with⟨n,hM⟩|⟨n,hM⟩
 ·exact fz
 refine al hS fun a hS=>?_;refine aJ (J:=fun a w=>∃ (f:Int),St W0 No T 46 [(3,aj f)] [] [] a w∧gC f=some y) ?_ ?_
 ·skip;refine al hS fun a hS=>?_;obtain⟨A,q,hMo1⟩:=bd hM;refine bB _ (fun s a w=>∃ (d:Int) (c:Int),(d,c)=s∧St W0 No T 46 [(0,a8 b),(3,aj d),(4,aj c)] [] [] a w) q ⟨_,_,rfl,hS.mt [] []⟩ ?_;rintro s a w z ⟨d,c,rfl,hS⟩ hM hf1;have hM:gD b d c=some z:=hM;unfold gD at hM;refine aA ?_;refine al hS fun a hS=>?_;rcases cd hM with⟨o,hM⟩|⟨o,hM⟩
  ·refine al hS fun a hS=>?_;refine aA ?_;refine al hS fun a hS=>?_;refine aA ?_;refine i1 ?_;refine al hS fun a hS=>?_;obtain⟨r,i,hM⟩:=bd hM;refine qy hS (BV hS Tryz.underlying9 rfl rfl i) fun a hS=>?_;refine al hS fun a hS=>?_;rcases cd hM with⟨h,hM⟩|⟨h,hM⟩
   ·exact fz
   refine al hS fun a hS=>?_;obtain⟨t,j,hM⟩:=bd hM;refine qg hS h (BV hS Tryz.underlying9 rfl rfl j) fun a hS=>?_;refine al hS fun a hS=>?_;rcases cd hM with⟨p,hM⟩|⟨p,hM⟩
   ·exact fz
   refine al hS fun a hS=>?_;obtain⟨u,k,hM⟩:=bd hM;refine qy hS (BV hS Tryz.underlying9 rfl rfl k) fun a hS=>?_;refine al hS fun a hS=>?_;exact⟨_,(cR hM).symm,_,_,rfl,hS.mt [] []⟩
  exact fz
 rintro a w ⟨f,hS,hM⟩;unfold gC at hM;exact fz
def iv (c:Int) (b:Bool):Option Int:=cond b (some (c)) (some ((-1)))
def iE (c:ah):Option Int:=(kP c.Text).bind fun b=>cond (decide ((30:Int)≤c.Kind)) (cond (decide (c.Kind≤32)) (iv b (decide (b≤99))) (iv b false)) (iv b false)
theorem n5 (T:Nat→Prop) (W0:World) (hT:TW T W0) (c:ah) (y:Int) (hM:iE c=some y):bc aQ No 67 [.agg (aX c).toArray] W0 (fun v w'=>v=aj y):=by
 refine en Tryz.func67 Tryz.ntmps67 hT fun a hS=>?_;unfold iE at hM;refine al hS fun a hS=>?_;refine kb hS fun f g a w hk hS=>?_;refine al hS fun a hS=>?_;refine aA ?_;refine al hS fun a hS=>?_;obtain⟨d,e,hM⟩:=bd hM;refine kc hS Jy (tq _ _ hS.dlt c.Text _ e) fun _ w hR a hk hA=>?_;obtain rfl:=hR;have hS:=bS hA;refine al hS fun a hS=>?_;refine aJ (J:=fun a w=>∃ (b:Bool),St W0 No T 20 [(3,aj d),(18,.bool b)] [] [] a w∧iv d b=some y) ?_ ?_
 ·exact fz
 rintro a w ⟨b,hS,hM⟩;unfold iv at hM;exact fz
def eo (b:Bool):Option Bool:=some (b)
def fj (b:ah) (c:Bool):Option Bool:=cond c ((iE b).bind fun d=>some (decide ((0:Int)≤d))) (cond (decide ((1:Int)≤b.Kind)) (cond (decide (b.Kind≤22)) (cond (decide (((b.Text.size:Int):Int)≤1073741824)) (cond (b.Text.toList==cr.toList) (eo true) (cond (b.Kind != 1) (eo (b.Kind != 21)) (eo false))) (eo false)) (eo false)) (eo false))
def cW (b:ah):Option Bool:=cond (decide ((30:Int)≤b.Kind)) (fj b (decide (b.Kind≤32))) (fj b false)
theorem my (T:Nat→Prop) (W0:World) (hT:TW T W0) (b:ah) (y:Bool) (hM:cW b=some y):bc aQ No 36 [.agg (aX b).toArray] W0 (fun v w'=>v = .bool y):=by
 refine en Tryz.func36 Tryz.ntmps36 hT fun a hS=>?_;unfold cW at hM;refine al hS fun a hS=>?_;refine kb hS fun e h a w hk hS=>?_;refine al hS fun a hS=>?_;refine aA ?_;refine aJ (J:=fun a w=>∃ (d:Bool),St W0 No T 43 [(1,pt e 0),(10,.bool d)] [.box e (aX b) 31] [] a w∧fj b d=some y) ?_ ?_
 ·exact fz
 rintro a w ⟨d,hS,hM⟩;unfold fj at hM;rcases cd hM with⟨g,hM⟩|⟨g,hM⟩
 ·refine al hS fun a hS=>?_;obtain⟨i,f,hM⟩:=bd hM;refine kc hS Ih (n5 _ _ hS.dlt b _ f) fun _ w hR a hk hA=>?_;obtain rfl:=hR;have hS:=bS hA;exact fz
 refine al hS fun a hS=>?_;refine aJ (J:=fun a w=>∃ (c:Bool),St W0 No T 43 [(2,.bool c)] [] [] a w∧eo c=some y) ?_ ?_
 ·exact fz
 rintro a w ⟨c,hS,hM⟩;unfold eo at hM;exact fz
def jz (b:Bool):Option Bool:=some (b)
def cC (b:ah):Option Bool:=cond (b.Kind==1) (jz true) (cond (b.Kind==2) (jz true) (jz (b.Kind==30)))
theorem dH (T:Nat→Prop) (W0:World) (hT:TW T W0) (c:ah) (y:Bool) (hM:cC c=some y):bc aQ No 37 [.agg (aX c).toArray] W0 (fun v w'=>v = .bool y):=by
 refine en Tryz.func37 Tryz.ntmps37 hT fun a hS=>?_;unfold cC at hM;refine al hS fun a hS=>?_;refine kb hS fun d e a w hk hS=>?_;refine al hS fun a hS=>?_;refine aJ (J:=fun a w=>∃ (b:Bool),St W0 No T 16 [(2,.bool b)] [] [] a w∧jz b=some y) ?_ ?_
 ·exact fz
 rintro a w ⟨b,hS,hM⟩;unfold jz at hM;exact fz
def iu (b:ah) (c:ah):Option Int:=cond (decide (b.Kind<c.Kind)) (some ((-1))) (cond (decide (c.Kind<b.Kind)) (some (1)) ((su b.Text c.Text).bind fun d=>some (d)))
theorem ln (T:Nat→Prop) (W0:World) (hT:TW T W0) (hLv:dx T W0) (b:ah) (c:ah) (y:Int) (hM:iu b c=some y):bc aQ No 35 [.agg (aX b).toArray,.agg (aX c).toArray] W0 (fun v w'=>v=aj y):=by
 refine en Tryz.func35 Tryz.ntmps35 hT fun a hS=>?_;replace hS:=hS.fact bu (dx.dn hLv);unfold iu at hM;refine al hS fun a hS=>?_;refine kb hS fun g i a w hk hS=>?_;refine kb hS fun h j a w hk hS=>?_;refine al hS fun a hS=>?_;refine aA ?_;refine al hS fun a hS=>?_;rcases cd hM with⟨e,hM⟩|⟨e,hM⟩
 ·exact fz
 refine al hS fun a hS=>?_;rcases cd hM with⟨f,hM⟩|⟨f,hM⟩
 ·exact fz
 refine al hS fun a hS=>?_;obtain⟨k,d,hM⟩:=bd hM;refine kc hS MK (xq _ _ hS.dlt (hS.get 0 rfl) b.Text c.Text _ d) fun _ w hR a hk hA=>?_;obtain rfl:=hR;have hS:=bS hA;exact fz
def fP (b:Bool):Option Bool:=some (b)
def qq (b:Int):Option Bool:=cond (b==7) (fP true) (cond (b==14) (fP true) (cond (b==17) (fP true) (fP (b==18))))
theorem zd (T:Nat→Prop) (W0:World) (hT:TW T W0) (c:Int) (y:Bool) (hM:qq c=some y):bc aQ No 113 [aj c] W0 (fun v w'=>v = .bool y):=by
 refine en Tryz.func113 Tryz.ntmps113 hT fun a hS=>?_;unfold qq at hM;refine al hS fun a hS=>?_;refine aJ (J:=fun a w=>∃ (b:Bool),St W0 No T 17 [(2,.bool b)] [] [] a w∧fP b=some y) ?_ ?_
 ·exact fz
 rintro a w ⟨b,hS,hM⟩;unfold fP at hM;exact fz
def fQ (b:Bool):Option Bool:=some (b)
def cB (b:ah):Option Bool:=cond (b.Kind==32) (fQ true) (cond (decide ((1:Int)≤b.Kind)) (cond (decide (b.Kind≤22)) ((qq b.Kind).bind fun c=>fQ c) (fQ false)) (fQ false))
theorem cO (T:Nat→Prop) (W0:World) (hT:TW T W0) (d:ah) (y:Bool) (hM:cB d=some y):bc aQ No 95 [.agg (aX d).toArray] W0 (fun v w'=>v = .bool y):=by
 refine en Tryz.func95 Tryz.ntmps95 hT fun a hS=>?_;unfold cB at hM;refine al hS fun a hS=>?_;refine kb hS fun h i a w hk hS=>?_;refine al hS fun a hS=>?_;refine aJ (J:=fun a w=>∃ (b:Bool),St W0 No T 21 [(2,.bool b)] [] [] a w∧fQ b=some y) ?_ ?_
 ·skip;refine al hS fun a hS=>?_;rcases cd hM with⟨f,hM⟩|⟨f,hM⟩
  ·exact fz
  refine al hS fun a hS=>?_;rcases cd hM with⟨g,hM⟩|⟨g,hM⟩
  ·refine al hS fun a hS=>?_;rcases cd hM with⟨c,hM⟩|⟨c,hM⟩
   ·refine al hS fun a hS=>?_;obtain⟨j,e,hM⟩:=bd hM;refine wg hS rfl rfl rfl c (be hS Mi rfl rfl (zd _ _ hS.dlt d.Kind _ e) fun _ w hR a hk hA=>?_);obtain rfl:=hR;have hS:=bS hA;exact fz
   exact fz
  exact fz
 rintro a w ⟨b,hS,hM⟩;unfold fQ at hM;exact fz
def cp (b:Bool):Option Bool:=some (b)
def jC (b:ab):Option Bool:=(cW b.Key).bind fun c=>cond c ((cC b.Key).bind fun d=>cond (!(d)) (cond (decide (((b.Value.size:Int):Int)≤1073741824)) (cond (decide ((b.Reads.length:Int)≤4000)) (cond (decide ((0:Int)≤b.Changed)) (cond (decide (b.Changed≤b.Verified)) (cond (decide (b.Verified≤1073741824)) (cond (decide ((1:Int)≤b.Cost)) (cond (decide (b.Cost≤1073741824)) (cond (!(b.Dirty)) (cp true) ((cB b.Key).bind fun e=>cp e)) (cp false)) (cp false)) (cp false)) (cp false)) (cp false)) (cp false)) (cp false)) (cp false)) (cp false)
def ez (c:ab) (b:Int):Option (Fl (Int) (Fl (Unit) Bool)):=cond (decide (b<(c.Reads.length:Int))) ((bg c.Reads b).bind fun d=>(cW d).bind fun e=>cond (!(e)) (some (.out (.out false))) (some (.go (IntKind.i64.wrap (b+1))))) (some (.out (.go ())))
def lw (b:ab):Option Bool:=(loop (fun s:Int=>ez b s) 0).bind fun r=>Fl.el r (fun s=>jC b) (fun y=>some (y))
theorem Al (T:Nat→Prop) (W0:World) (hT:TW T W0) (b:ab) (f:Value) (D:aD ac T W0 f b.Reads) (y:Bool) (hM:lw b=some y):bc aQ No 68 [.agg (aE b f).toArray] W0 (fun v w'=>v = .bool y):=by
 refine en Tryz.func68 Tryz.ntmps68 hT fun a hS=>?_;replace hS:=hS.fS (aD.dn D);unfold lw at hM;refine al hS fun a hS=>?_;refine kb hS fun c I a w hk hS=>?_;refine al hS fun a hS=>?_;refine aJ (J:=fun a w=>St W0 No T 74 [(1,pt c 0)] [.box c (aE b f) 33] [aK ac f b.Reads] a w∧jC b=some y) ?_ ?_
 ·skip;refine al hS fun a hS=>?_;obtain⟨Q,C,hMo1⟩:=bd hM;refine bB _ (fun s a w=>∃ (d:Int),d=s∧St W0 No T 74 [(1,pt c 0),(6,f),(7,aj (b.Reads.length:Int)),(8,aj d)] [.box c (aE b f) 33] [aK ac f b.Reads] a w) C ⟨_,rfl,hS.mt [0] [0]⟩ ?_;rintro s a w H ⟨d,rfl,hS⟩ hM hf1;have hM:ez b d=some H:=hM;unfold ez at hM;refine al hS fun a hS=>?_;refine aA ?_;rcases cd hM with⟨o,hM⟩|⟨o,hM⟩
  ·refine al hS fun a hS=>?_;refine aA ?_;refine al hS fun a hS=>?_;obtain⟨n,i,hM⟩:=bd hM;refine wl rfl (bD (R:=ac) hS mM e7 rfl rfl 0 rfl i rfl fun E L G p a hS=>?_);obtain rfl:=p;refine al hS fun a hS=>?_;refine ka hS gl fun F K a w hk hS=>?_;refine go hS fun a w hS=>?_;obtain⟨P,m,hM⟩:=bd hM;refine kc hS Gm (my _ _ hS.dlt n _ m) fun _ w hR a hk hA=>?_;obtain rfl:=hR;have hS:=bS hA;exact fz
  exact fz
 rintro a w ⟨hS,hM⟩;unfold jC at hM;refine aJ (J:=fun a w=>∃ (e:Bool),St W0 No T 74 [(2,.bool e)] [] [] a w∧cp e=some y) ?_ ?_
 ·skip;refine al hS fun a hS=>?_;obtain⟨M,j,hM⟩:=bd hM;refine kc hS Gm (my _ _ hS.dlt b.Key _ j) fun _ w hR a hk hA=>?_;obtain rfl:=hR;have hS:=bS hA;refine al hS fun a hS=>?_;rcases cd hM with⟨g,hM⟩|⟨g,hM⟩
  ·refine al hS fun a hS=>?_;obtain⟨N,k,hM⟩:=bd hM;refine wg hS rfl rfl rfl g (be hS yq rfl rfl (dH _ _ hS.dlt b.Key _ k) fun _ w hR a hk hA=>?_);obtain rfl:=hR;have hS:=bS hA;refine al hS fun a hS=>?_;rcases cd hM with⟨q,hM⟩|⟨q,hM⟩
   ·refine al hS fun a hS=>?_;rcases cd hM with⟨r,hM⟩|⟨r,hM⟩
    ·refine al hS fun a hS=>?_;rcases cd hM with⟨t,hM⟩|⟨t,hM⟩
     ·refine al hS fun a hS=>?_;rcases cd hM with⟨u,hM⟩|⟨u,hM⟩
      ·refine al hS fun a hS=>?_;rcases cd hM with⟨x,hM⟩|⟨x,hM⟩
       ·refine al hS fun a hS=>?_;rcases cd hM with⟨z,hM⟩|⟨z,hM⟩
        ·refine al hS fun a hS=>?_;rcases cd hM with⟨A,hM⟩|⟨A,hM⟩
         ·refine al hS fun a hS=>?_;rcases cd hM with⟨B,hM⟩|⟨B,hM⟩
          ·refine al hS fun a hS=>?_;rcases cd hM with⟨h,hM⟩|⟨h,hM⟩
           ·exact fz
           refine al hS fun a hS=>?_;obtain⟨O,l,hM⟩:=bd hM;refine wg hS rfl rfl rfl h (be hS wN rfl rfl (cO _ _ hS.dlt b.Key _ l) fun _ w hR a hk hA=>?_);obtain rfl:=hR;have hS:=bS hA;exact fz
          exact fz
         exact fz
        exact fz
       exact fz
      exact fz
     exact fz
    exact fz
   exact fz
  exact fz
 rintro a w ⟨e,hS,hM⟩;unfold cp at hM;exact fz
def nk (b:LR):Option Bool:=some (decide ((b.length:Int)≤4000))
def dp (b:Int) (c:Bool):Option (Fl (Int) (Fl (Unit) Bool)):=cond c (some (.out (.out false))) (some (.go (IntKind.i64.wrap (b+1))))
def cX (d:LR) (b:Int):Option (Fl (Int) (Fl (Unit) Bool)):=cond (decide (b<(d.length:Int))) ((bg d b).bind fun c=>(lw c).bind fun f=>cond (!(f)) (dp b true) (cond (decide ((0:Int)<b)) ((bg d (IntKind.i64.wrap (b-1))).bind fun e=>(iu e.Key c.Key).bind fun g=>dp b (decide ((0:Int)≤g))) (dp b false))) (some (.out (.go ())))
def fU (b:LR):Option Bool:=(loop (fun s:Int=>cX b s) 0).bind fun r=>Fl.el r (fun s=>nk b) (fun y=>some (y))
theorem wr (T:Nat→Prop) (W0:World) (hT:TW T W0) (hLv:dx T W0) (b:LR) (d:Value) (C:aD aa T W0 d b) (y:Bool) (hM:fU b=some y):bc aQ No 38 [d] W0 (fun v w'=>v = .bool y):=by
 refine en Tryz.func38 Tryz.ntmps38 hT fun a hS=>?_;replace hS:=(hS.fact bu (dx.dn hLv)).fS (aD.dn C);unfold fU at hM;refine al hS fun a hS=>?_;refine aJ (J:=fun a w=>St W0 No T 35 [(0,d)] [] [aK aa d b,bu] a w∧nk b=some y) ?_ ?_
 ·skip;refine al hS fun a hS=>?_;obtain⟨O,B,hMo1⟩:=bd hM;refine bB _ (fun s a w=>∃ (c:Int),c=s∧St W0 No T 35 [(0,d),(5,d),(6,aj (b.length:Int)),(7,aj c)] [] [aK aa d b,bu] a w) B ⟨_,rfl,hS.mt [] [0,1]⟩ ?_;rintro s a w A ⟨c,rfl,hS⟩ hM hf1;have hM:cX b c=some A:=hM;unfold cX at hM;refine al hS fun a hS=>?_;refine aA ?_;rcases cd hM with⟨q,hM⟩|⟨q,hM⟩
  ·refine al hS fun a hS=>?_;refine aA ?_;refine al hS fun a hS=>?_;obtain⟨g,h,hM⟩:=bd hM;refine wl rfl (bD (R:=aa) hS dM bZ rfl rfl 0 rfl h rfl fun D I F r a hS=>?_);obtain⟨M,rfl,m⟩:=r;replace hS:=hS.fS m;refine al hS fun a hS=>?_;refine ka hS dq fun E H a w hk hS=>?_;refine go hS fun a w hS=>?_;refine aJ (J:=fun a w=>∃ (e:Bool),St W0 No T 35 [(0,d),(5,d),(6,aj (b.length:Int)),(7,aj c),(30,.bool e)] [] [aK aa d b,bu] a w∧dp c e=some A) ?_ ?_
   ·skip;refine dr [] hS fun w hQ hS=>?_;refine gE [0] hS fun a hS=>?_;obtain⟨K,k,hM⟩:=bd hM;refine ec 1 hS N4 (Al _ _ hS.dlt g _ (hS.get 0 rfl) _ k) fun _ w hR a hk hA=>?_;obtain rfl:=hR;have hS:=bS hA;refine gE [2,3] hS fun a hS=>?_;rcases cd hM with⟨t,hM⟩|⟨t,hM⟩
    ·refine gE [4,5,6,7,8,9,10,11,12,13,14,15,16,17,18] hS fun a hS=>?_;refine eD ?_;exact⟨_,hS.mt [] [2,3],hM⟩
    refine gE [4,5,6] hS fun a hS=>?_;rcases cd hM with⟨f,hM⟩|⟨f,hM⟩
    ·refine gE [7,8,9] hS fun a hS=>?_;obtain⟨p,j,hM⟩:=bd hM;obtain⟨o,z,G,u,x,hS⟩:=mP (R:=aa) hS dM bZ 2 rfl j;obtain⟨N,rfl,n⟩:=u;replace hS:=hS.fS n;refine yG 10 (v:=pt o z) rfl (by kernel_rfl) (by kernel_rfl) (by kernel_rfl) rfl hQ hS (x rfl rfl) rfl rfl rfl f rfl rfl fun a hS=>?_;refine gE [11,12,13,14] hS fun a hS=>?_;obtain⟨L,l,hM⟩:=bd hM;refine bV (i:=15) rfl (by kernel_rfl) hS rfl rfl rfl f (be hS DF rfl rfl (ln _ _ hS.dlt (hS.get 5 rfl) p.Key g.Key _ l) fun _ w hR a hk hA=>⟨eS (hk),?_⟩);obtain rfl:=hR;have hS:=bS hA;refine gE [16,17,18] hS fun a hS=>?_;refine eD ?_;exact⟨_,hS.mt [] [4,5],hM⟩
    refine gE [7,8,9,10,11,12,13,14,15,16,17,18] hS fun a hS=>?_;refine eD ?_;exact⟨_,hS.mt [] [2,3],hM⟩
   rintro a w ⟨e,hS,hM⟩;unfold dp at hM;exact fz
  exact fz
 rintro a w ⟨hS,hM⟩;unfold nk at hM;exact fz
def gW (b:Bool):Option Bool:=some (b)
def jE (b:am):Option Bool:=cond (decide ((0:Int)≤b.Revision)) (cond (decide (b.Revision≤1073741824)) (cond (decide ((b.Inputs.length:Int)≤64)) ((fU b.Records).bind fun c=>gW c) (gW false)) (gW false)) (gW false)
def eC (c:am) (b:Int):Option (Fl (Int) (Fl (Unit) Bool)):=cond (decide (b<(c.Records.length:Int))) ((bg c.Records b).bind fun d=>cond (decide (c.Revision<d.Verified)) (some (.out (.out false))) (some (.go (IntKind.i64.wrap (b+1))))) (some (.out (.go ())))
def jF (b:am):Option Bool:=(loop (fun s:Int=>eC b s) 0).bind fun r=>Fl.el r (fun s=>jE b) (fun y=>some (y))
def cD (b:Int) (c:Bool):Option (Fl (Int) (Fl (Unit) Bool)):=cond c (some (.out (.out false))) (some (.go (IntKind.i64.wrap (b+1))))
def eE (d:am) (b:Int):Option (Fl (Int) (Fl (Unit) Bool)):=cond (decide (b<(d.Inputs.length:Int))) ((bg d.Inputs b).bind fun c=>(cW c.Key).bind fun f=>cond (!(f)) (cD b true) ((cC c.Key).bind fun g=>cond (!(g)) (cD b true) (cond (decide ((0:Int)<b)) ((bg d.Inputs (IntKind.i64.wrap (b-1))).bind fun e=>(iu e.Key c.Key).bind fun h=>cond (decide ((0:Int)≤h)) (cD b true) (cond (decide ((1073741824:Int)<(c.Value.size:Int))) (cD b true) (cond (decide (c.Changed<0)) (cD b true) (cD b (decide (d.Revision<c.Changed)))))) (cond (decide ((1073741824:Int)<(c.Value.size:Int))) (cD b true) (cond (decide (c.Changed<0)) (cD b true) (cD b (decide (d.Revision<c.Changed)))))))) (some (.out (.go ())))
def fw (b:am):Option Bool:=(loop (fun s:Int=>eE b s) 0).bind fun r=>Fl.el r (fun s=>jF b) (fun y=>some (y))
theorem pn (T:Nat→Prop) (W0:World) (hT:TW T W0) (hLv:dx T W0) (b:am) (d:Value) (f:Value) (W:aD ad T W0 d b.Inputs) (X:aD aa T W0 f b.Records) (y:Bool) (hM:fw b=some y):bc aQ No 13 [.agg (aY b d f).toArray] W0 (fun v w'=>v = .bool y):=by
 refine en Tryz.func13 Tryz.ntmps13 hT fun a hS=>?_;replace hS:=((hS.fact bu (dx.dn hLv)).fS (aD.dn W)).fS (aD.dn X);unfold fw at hM;refine al hS fun a hS=>?_;refine kb hS fun c a9 a w hk hS=>?_;refine al hS fun a hS=>?_;refine aJ (J:=fun a w=>St W0 No T 93 [(1,pt c 0)] [.box c (aY b d f) 25] [aK ad d b.Inputs,aK aa f b.Records,bu] a w∧jF b=some y) ?_ ?_
 ·skip;refine al hS fun a hS=>?_;obtain⟨r1,o,hMo1⟩:=bd hM;refine bB _ (fun s a w=>∃ (e:Int),e=s∧St W0 No T 93 [(1,pt c 0),(8,d),(9,aj (b.Inputs.length:Int)),(10,aj e)] [.box c (aY b d f) 25] [aK ad d b.Inputs,aK aa f b.Records,bu] a w) o ⟨_,rfl,hS.mt [0] [1,0,2]⟩ ?_;rintro s a w p ⟨e,rfl,hS⟩ hM hf1;have hM:eE b e=some p:=hM;unfold eE at hM;refine al hS fun a hS=>?_;refine aA ?_;rcases cd hM with⟨E,hM⟩|⟨E,hM⟩
  ·refine al hS fun a hS=>?_;refine aA ?_;refine al hS fun a hS=>?_;obtain⟨h,r,hM⟩:=bd hM;refine wl rfl (bD (R:=ad) hS Ar As rfl rfl 0 rfl r rfl fun Y ak a2 F a hS=>?_);obtain rfl:=F;refine al hS fun a hS=>?_;refine ka hS xU fun Z af a w hk hS=>?_;refine go hS fun a w hS=>?_;refine aJ (J:=fun a w=>∃ (k:Bool),St W0 No T 93 [(1,pt c 0),(8,d),(9,aj (b.Inputs.length:Int)),(10,aj e),(59,.bool k)] [.box c (aY b d f) 25] [aK ad d b.Inputs,aK aa f b.Records,bu] a w∧cD e k=some p) ?_ ?_
   ·skip;refine dr [] hS fun w hQ hS=>?_;refine gE [0,1] hS fun a hS=>?_;obtain⟨b1,x,hM⟩:=bd hM;refine ec 2 hS Gm (my _ _ hS.dlt h.Key _ x) fun _ w hR a hk hA=>?_;obtain rfl:=hR;have hS:=bS hA;refine gE [3,4] hS fun a hS=>?_;rcases cd hM with⟨m,hM⟩|⟨m,hM⟩
    ·refine gE [5,6,7,8,9,10,11,12,13,14,15,16,17,18,19,20,21,22,23,24,25,26,27,28,29,30,31,32,33,34,35,36,37,38,39,40,41,42,43,44] hS fun a hS=>?_;refine eD ?_;exact⟨_,hS.mt [1] [1,2,3],hM⟩
    refine gE [5,6] hS fun a hS=>?_;obtain⟨b2,z,hM⟩:=bd hM;refine bV (i:=7) rfl (by kernel_rfl) hS rfl rfl rfl m (be hS yq rfl rfl (dH _ _ hS.dlt h.Key _ z) fun _ w hR a hk hA=>⟨eS (hk),?_⟩);obtain rfl:=hR;have hS:=bS hA;refine gE [8,9,10] hS fun a hS=>?_;rcases cd hM with⟨G,hM⟩|⟨G,hM⟩
    ·refine gE [11,12,13,14,15,16,17,18,19,20,21,22,23,24,25,26,27,28,29,30,31,32,33,34,35,36,37,38,39,40,41,42,43,44] hS fun a hS=>?_;refine eD ?_;exact⟨_,hS.mt [1] [1,2,3],hM⟩
    refine gE [11,12,13] hS fun a hS=>?_;rcases cd hM with⟨l,hM⟩|⟨l,hM⟩
    ·refine gE [14,15,16,17] hS fun a hS=>?_;obtain⟨D,t,hM⟩:=bd hM;obtain⟨C,V,a3,H,I,hS⟩:=mP (R:=ad) hS Ar As 1 rfl t;obtain rfl:=H;refine yG 18 (v:=pt C V) rfl (by kernel_rfl) (by kernel_rfl) (by kernel_rfl) rfl hQ hS (I rfl rfl) rfl rfl rfl l rfl rfl fun a hS=>?_;refine gE [19,20,21,22] hS fun a hS=>?_;obtain⟨b3,A,hM⟩:=bd hM;refine bV (i:=23) rfl (by kernel_rfl) hS rfl rfl rfl l (be hS DF rfl rfl (ln _ _ hS.dlt (hS.get 4 rfl) D.Key h.Key _ A) fun _ w hR a hk hA=>⟨eS (hk),?_⟩);obtain rfl:=hR;have hS:=bS hA;refine gE [24,25,26,27] hS fun a hS=>?_;rcases cd hM with⟨K,hM⟩|⟨K,hM⟩
     ·refine gE [28,29,30,31,32,33,34,35,36,37,38,39,40,41,42,43,44] hS fun a hS=>?_;refine eD ?_;exact⟨_,hS.mt [1] [2,3,4],hM⟩
     refine gE [28,29,30,31,32,33] hS fun a hS=>?_;rcases cd hM with⟨L,hM⟩|⟨L,hM⟩
     ·refine gE [34,35,36,37,38,39,40,41,42,43,44] hS fun a hS=>?_;refine eD ?_;exact⟨_,hS.mt [1] [2,3,4],hM⟩
     refine gE [34,35,36,37,38] hS fun a hS=>?_;rcases cd hM with⟨M,hM⟩|⟨M,hM⟩
     ·refine gE [39,40,41,42,43,44] hS fun a hS=>?_;refine eD ?_;exact⟨_,hS.mt [1] [2,3,4],hM⟩
     refine gE [39,40,41,42,43,44] hS fun a hS=>?_;refine eD ?_;exact⟨_,hS.mt [1] [2,3,4],hM⟩
    refine gE [14,15,16,17,18,19,20,21,22,23,24,25,26,27,28,29,30,31,32,33] hS fun a hS=>?_;rcases cd hM with⟨N,hM⟩|⟨N,hM⟩
    ·refine gE [34,35,36,37,38,39,40,41,42,43,44] hS fun a hS=>?_;refine eD ?_;exact⟨_,hS.mt [1] [1,2,3],hM⟩
    refine gE [34,35,36,37,38] hS fun a hS=>?_;rcases cd hM with⟨O,hM⟩|⟨O,hM⟩
    ·refine gE [39,40,41,42,43,44] hS fun a hS=>?_;refine eD ?_;exact⟨_,hS.mt [1] [1,2,3],hM⟩
    refine gE [39,40,41,42,43,44] hS fun a hS=>?_;refine eD ?_;exact⟨_,hS.mt [1] [1,2,3],hM⟩
   rintro a w ⟨k,hS,hM⟩;unfold cD at hM;exact fz
  exact fz
 rintro a w ⟨hS,hM⟩;unfold jF at hM;refine aJ (J:=fun a w=>St W0 No T 93 [(1,pt c 0)] [.box c (aY b d f) 25] [aK ad d b.Inputs,aK aa f b.Records,bu] a w∧jE b=some y) ?_ ?_
 ·skip;refine al hS fun a hS=>?_;obtain⟨r1,o,hMo1⟩:=bd hM;refine bB _ (fun s a w=>∃ (g:Int),g=s∧St W0 No T 93 [(1,pt c 0),(62,f),(63,aj (b.Records.length:Int)),(64,aj g)] [.box c (aY b d f) 25] [aK aa f b.Records,aK ad d b.Inputs,bu] a w) o ⟨_,rfl,hS.mt [0] [1,0,2]⟩ ?_;rintro s a w p ⟨g,rfl,hS⟩ hM hf1;have hM:eC b g=some p:=hM;unfold eC at hM;refine al hS fun a hS=>?_;refine aA ?_;rcases cd hM with⟨P,hM⟩|⟨P,hM⟩
  ·refine al hS fun a hS=>?_;refine aA ?_;refine al hS fun a hS=>?_;obtain⟨a5,q,hM⟩:=bd hM;refine wl rfl (bD (R:=aa) hS dM bZ rfl rfl 0 rfl q rfl fun a0 an a4 Q a hS=>?_);obtain⟨b4,rfl,B⟩:=Q;replace hS:=hS.fS B;refine al hS fun a hS=>?_;refine ka hS dq fun a1 ag a w hk hS=>?_;exact fz
  exact fz
 rintro a w ⟨hS,hM⟩;unfold jE at hM;refine aJ (J:=fun a w=>∃ (j:Bool),St W0 No T 93 [(2,.bool j)] [] [bu] a w∧gW j=some y) ?_ ?_
 ·skip;refine al hS fun a hS=>?_;rcases cd hM with⟨S,hM⟩|⟨S,hM⟩
  ·refine al hS fun a hS=>?_;rcases cd hM with⟨U,hM⟩|⟨U,hM⟩
   ·refine al hS fun a hS=>?_;rcases cd hM with⟨n,hM⟩|⟨n,hM⟩
    ·refine al hS fun a hS=>?_;obtain⟨b0,u,hM⟩:=bd hM;refine wg hS rfl rfl rfl n (be hS NR rfl rfl (wr _ _ hS.dlt (hS.get 2 rfl) b.Records _ (hS.get 1 rfl) _ u) fun _ w hR a hk hA=>?_);obtain rfl:=hR;have hS:=bS hA;exact fz
    exact fz
   exact fz
  exact fz
 rintro a w ⟨j,hS,hM⟩;unfold gW at hM;exact fz
def sa (b:ah):Option aZ:=some ((aZ.mk b cr 0))
def gr (d:am) (e:ah) (c:Int):Option (Fl (Int) (Fl (Unit) aZ)):=cond (decide (c<(d.Inputs.length:Int))) ((bg d.Inputs c).bind fun b=>cond (b.Key.Kind==e.Kind&&b.Key.Text.toList==e.Text.toList) (some (.out (.out b))) (some (.go (IntKind.i64.wrap (c+1))))) (some (.out (.go ())))
def oQ (c:am) (b:ah):Option aZ:=(loop (fun s:Int=>gr c b s) 0).bind fun r=>Fl.el r (fun s=>sa b) (fun y=>some (y))
theorem wu (T:Nat→Prop) (W0:World) (hT:TW T W0) (c:am) (b:ah) (i:Value) (p:Value) (n:aD ad T W0 i c.Inputs) (o:aD aa T W0 p c.Records) (y:aZ) (hM:oQ c b=some y):bc aQ No 89 [.agg (aY c i p).toArray,.agg (aX b).toArray] W0 (fun v w'=>v = .agg (ve y).toArray):=by
 refine en Tryz.func89 Tryz.ntmps89 hT fun a hS=>?_;replace hS:=(hS.fS (aD.dn n)).fS (aD.dn o);unfold oQ at hM;refine al hS fun a hS=>?_;refine kb hS fun q z a w hk hS=>?_;refine kb hS fun d A a w hk hS=>?_;refine ka hS xU fun e B a w hk hS=>?_;refine al hS fun a hS=>?_;refine aJ (J:=fun a w=>St W0 No T 22 [(3,pt d 0),(4,pt e 0)] [.box d (aX b) 31,.box e [aj 0,a8 cr,a8 cr,aj 0] 75] [] a w∧sa b=some y) ?_ ?_
 ·skip;refine al hS fun a hS=>?_;obtain⟨E,m,hMo1⟩:=bd hM;refine bB _ (fun s a w=>∃ (f:Int),f=s∧St W0 No T 22 [(3,pt d 0),(4,pt e 0),(8,i),(9,aj (c.Inputs.length:Int)),(10,aj f)] [.box d (aX b) 31,.box e [aj 0,a8 cr,a8 cr,aj 0] 75] [aK ad i c.Inputs] a w) m ⟨_,rfl,hS.mt [1,0] [1]⟩ ?_;rintro s a w x ⟨f,rfl,hS⟩ hM hf1;have hM:gr c b f=some x:=hM;unfold gr at hM;refine al hS fun a hS=>?_;refine aA ?_;rcases cd hM with⟨j,hM⟩|⟨j,hM⟩
  ·refine al hS fun a hS=>?_;refine aA ?_;refine al hS fun a hS=>?_;obtain⟨g,h,hM⟩:=bd hM;refine wl rfl (bD (R:=ad) hS Ar As rfl rfl 0 rfl h rfl fun r D u k a hS=>?_);obtain rfl:=k;refine al hS fun a hS=>?_;refine ka hS xU fun t C a w hk hS=>?_;refine go hS fun a w hS=>?_;refine wl rfl (ky (v:=.bool (g.Key.Kind==b.Kind&&g.Key.Text.toList==b.Text.toList)) hS (z7 hS rfl rfl) rfl rfl fun a hS=>?_);refine al hS fun a hS=>?_;rcases cd hM with⟨l,hM⟩|⟨l,hM⟩
   ·refine go hS fun a w hS=>?_;cases hM
    have hr:=hf1 _ rfl;subst hr;replace hMo1:=iq hMo1;have hM:=hMo1;cases hM
    refine aH hS rfl (rC 2 hS) ?_;exact rfl
   exact fz
  exact fz
 rintro a w ⟨hS,hM⟩;unfold sa at hM;refine al hS fun a hS=>?_;refine qy hS (bE (ps:=[(0,.tmp 20)]) hS LA xU rfl (us:=[(aX b)]) ⟨rfl,trivial⟩ (ws:=[aj b.Kind,a8 b.Text,a8 cr,aj 0]) rfl) fun a hS=>?_;refine go hS fun a w hS=>?_;cases hM
 refine aH hS rfl (rC 1 hS) ?_;exact rfl
def oP (c:am) (d:ah):Option ByteArray:=(oQ c d).bind fun b=>some (b.Value)
theorem tP (T:Nat→Prop) (W0:World) (hT:TW T W0) (b:am) (c:ah) (g:Value) (h:Value) (e:aD ad T W0 g b.Inputs) (f:aD aa T W0 h b.Records) (y:ByteArray) (hM:oP b c=some y):bc aQ No 58 [.agg (aY b g h).toArray,.agg (aX c).toArray] W0 (fun v w'=>v=a8 y):=by
 refine en Tryz.func58 Tryz.ntmps58 hT fun a hS=>?_;replace hS:=(hS.fS (aD.dn e)).fS (aD.dn f);unfold oP at hM;refine al hS fun a hS=>?_;refine kb hS fun i k a w hk hS=>?_;refine kb hS fun j l a w hk hS=>?_;refine al hS fun a hS=>?_;obtain⟨m,d,hM⟩:=bd hM;refine kc hS MP (wu _ _ hS.dlt b c _ _ (hS.get 1 rfl) (hS.get 0 rfl) _ d) fun _ w hR a hk hA=>?_;obtain rfl:=hR;have hS:=bS hA;refine qy hS (Df hS rfl Tryz.underlying75 rfl rfl JZ rfl rfl (fun _=>rfl)) fun a hS=>?_;exact fz
def lx (b:am) (c:am) (e:Bool) (d:LI):Option (am×Int):=cond (!(e)) (some ((b,0))) (cond (decide ((64:Int)<(d.length:Int))) (some ((b,45))) (cond (decide ((1073741824:Int)<(IntKind.i64.wrap (c.Revision+1)))) (some ((b,3))) (some (((am.mk (IntKind.i64.wrap (c.Revision+1)) d c.Records),0)))))
def jD (c:Int) (b:Bool) (d:LI):Option (Fl (Bool×Int×LI) (Bool×LI)):=some (.go (b,IntKind.i64.wrap (c+1),d))
def fp (b:Int) (c:LI):Option (Fl (Bool×Int×LI) (Bool×LI)):=jD b true c
def fq (e:am) (d:Int) (b:dZ) (c:LI) (f:Bool):Option (Fl (Bool×Int×LI) (Bool×LI)):=cond (!(f)) (gd (bT (c.length+([(aZ.mk b.Key b.Value (IntKind.i64.wrap (e.Revision+1)))]).length)) <| fp d (c++([(aZ.mk b.Key b.Value (IntKind.i64.wrap (e.Revision+1)))]))) (fp d c)
def ft (b:Int) (c:LI) (d:Bool):Option (Fl (LI×Bool×Int) (LI×Bool)):=some (.go (c,d,IntKind.i64.wrap (b+1)))
def fu (d:Int) (c:aZ) (f:Int) (b:LI) (e:Bool):Option (Fl (LI×Bool×Int) (LI×Bool)):=cond (f != 0) (gd (bT (b.length+([c]).length)) <| ft d (b++([c])) e) (ft d b e)
def fv (f:am) (b:dZ) (c:LI) (i:Bool) (e:Int) (d:aZ) (g:Int) (h:Bool):Option (Fl (LI×Bool×Int) (LI×Bool)):=cond h (gd (bT (c.length+([(aZ.mk b.Key b.Value (IntKind.i64.wrap (f.Revision+1)))]).length)) <| fu e d g (c++([(aZ.mk b.Key b.Value (IntKind.i64.wrap (f.Revision+1)))])) true) (fu e d g c i)
def gV (i:am) (h:LI) (d:dZ) (f:LI) (c:Bool) (b:Int):Option (Fl (LI×Bool×Int) (LI×Bool)):=cond (decide (b<(h.length:Int))) ((bg h b).bind fun e=>(iu e.Key d.Key).bind fun g=>cond (decide ((0:Int)≤g)) (fv i d f c b e g (!(c))) (fv i d f c b e g false)) (some (.out (f,c)))
def ob (h:am) (f:am) (e:Bool) (c:Int) (d:LI) (b:dZ) (g:Bool):Option (Fl (Bool×Int×LI) (Bool×LI)):=cond (!(g)) (jD c e d) ((oP h b.Key).bind fun i=>cond (i.toList==b.Value.toList) (jD c e d) ((loop (fun s:LI×Bool×Int=>gV f d b s.1 s.2.1 s.2.2) (([]:List aZ),false,0)).bind fun r=>fq f c b r.1 r.2))
def mY (c:dZ) (e:LC) (f:Bool) (b:Int):Option (Fl (Bool×Int) (Bool)):=cond (decide (b<(e.length:Int))) ((bg e b).bind fun d=>cond f (some (.go (!(d.Key.Kind==c.Key.Kind&&d.Key.Text.toList==c.Key.Text.toList),IntKind.i64.wrap (b+1)))) (some (.go (false,IntKind.i64.wrap (b+1))))) (some (.out f))
def mZ (c:LC) (h:am) (i:am) (d:Bool) (b:Int) (f:LI):Option (Fl (Bool×Int×LI) (Bool×LI)):=cond (decide (b<(c.length:Int))) ((bg c b).bind fun e=>(qw c (IntKind.i64.wrap (b+1)) c.length).bind fun g=>(loop (fun s:Bool×Int=>mY e g s.1 s.2) (true,0)).bind fun r=>ob h i d b f e r) (some (.out (d,f)))
def kx (d:LC) (b:am):Option (am×Int):=(eA b).bind fun c=>(loop (fun s:Bool×Int×LI=>mZ d b c s.1 s.2.1 s.2.2) (false,0,c.Inputs)).bind fun r=>lx b c r.1 r.2
def kA (c:LC) (e:am) (b:Int):Option (Fl (Int) (Fl (Unit) (am×Int))):=cond (decide (b<(c.length:Int))) ((bg c b).bind fun d=>cond (decide ((1073741824:Int)<(d.Value.size:Int))) (some (.out (.out (e,3)))) (some (.go (IntKind.i64.wrap (b+1))))) (some (.out (.go ())))
def kz (c:LC) (b:am):Option (am×Int):=(loop (fun s:Int=>kA c b s) 0).bind fun r=>Fl.el r (fun s=>kx c b) (fun y=>some (y))
def kB (e:LC) (d:am) (b:Int):Option (Fl (Int) (Fl (Unit) (am×Int))):=cond (decide (b<(e.length:Int))) ((bg e b).bind fun c=>(cW c.Key).bind fun f=>cond (!(f)) (some (.out (.out (d,40)))) ((cC c.Key).bind fun g=>cond (!(g)) (some (.out (.out (d,40)))) (some (.go (IntKind.i64.wrap (b+1)))))) (some (.out (.go ())))
def nA (e:am) (c:LC):Option (am×Int):=(eA e).bind fun b=>(fw b).bind fun d=>cond (!(d)) (some ((b,42))) (cond (decide ((32:Int)<(c.length:Int))) (some ((b,3))) ((loop (fun s:Int=>kB c b s) 0).bind fun r=>Fl.el r (fun s=>kz c b) (fun y=>some (y))))
theorem uY (T:Nat→Prop) (W0:World) (hT:TW T W0) (hLv:dx T W0) (X:am) (l:LC) (v1:Value) (v2:Value) (o:Value) (fl:aD ad T W0 v1 X.Inputs) (fn:aD aa T W0 v2 X.Records) (fr:aD bm T W0 o l) (y:am×Int) (hM:nA X l=some y):bc aQ No 26 [.agg (aY X v1 v2).toArray,o] W0 (fun v w'=>∃ (v4:Value) (xJ:bh) (v6:Value) (xo:bh),v = .tuple #[.agg (aY y.1 v4 v6).toArray,aj y.2]∧ip ad T W0 w' [aT v4 xJ,ae v6 xo] 75 v4 xJ y.1.Inputs∧ip aa T W0 w' [aT v4 xJ,ae v6 xo] 33 v6 xo y.1.Records∧(∀ k,v4.ownBlock=some k→v6.ownBlock≠some k)):=by
 refine en Tryz.func26 Tryz.ntmps26 hT fun a hS=>?_;replace hS:=(((hS.fact bu (dx.dn hLv)).fS (aD.dn fl)).fS (aD.dn fn)).fS (aD.dn fr);unfold nA at hM;refine al hS fun a hS=>?_;refine kb hS fun m h6 a w hk hS=>?_;refine ka hS i8 fun n h7 a w hk hS=>?_;refine al hS fun a hS=>?_;obtain⟨b,d0,hM⟩:=bd hM;refine kc hS yr (eB _ _ hS.dlt X _ _ (hS.get 2 rfl) (hS.get 1 rfl) _ d0) fun _ w hR a hk hA=>?_;obtain⟨d,g,e,j,he,c1,c2,c0⟩:=hR;obtain rfl:=he.symm;have hS:=Aw hA c1 c2 c0;refine go hS fun a w hS=>?_;refine aA ?_;refine al hS fun a hS=>?_;have hL:=hS;replace hL:=hL.freeze (R:=ad) 0 rfl 1 rfl;replace hL:=hL.freeze (R:=aa) 0 rfl 1 rfl;obtain⟨hq,d6,hM⟩:=bd hM;refine kc hS Ic (pn _ _ hL.dlt (hL.get 7 rfl) b _ _ (hL.get 1 rfl) (hL.get 0 rfl) _ d6) fun _ w hR a hk hA=>?_;obtain rfl:=hR;have hS:=bS hA;refine al hS fun a hS=>?_;rcases cd hM with⟨dl,hM⟩|⟨dl,hM⟩
 ·refine go hS fun a w hS=>?_;cases hM
  refine aH hS Tryz.results26 (bj hS rfl 2 rfl gK rfl (fun h=>by cases h) (az hS rfl aF)) ?_;exact⟨d,g,e,j,rfl,hS.retOwn ⟨.inr (aG (i:=0) rfl),⟨.inr (aG (i:=1) rfl),trivial⟩⟩ 0 rfl 1 rfl,hS.retOwn ⟨.inr (aG (i:=0) rfl),⟨.inr (aG (i:=1) rfl),trivial⟩⟩ 1 rfl 0 rfl,(hS.apart2 0 rfl 1 rfl (by decide))⟩
 refine al hS fun a hS=>?_;rcases cd hM with⟨ds,hM⟩|⟨ds,hM⟩
 ·refine go hS fun a w hS=>?_;cases hM
  refine aH hS Tryz.results26 (bj hS rfl 2 rfl gK rfl (fun h=>by cases h) (az hS rfl aF)) ?_;exact⟨d,g,e,j,rfl,hS.retOwn ⟨.inr (aG (i:=0) rfl),⟨.inr (aG (i:=1) rfl),trivial⟩⟩ 0 rfl 1 rfl,hS.retOwn ⟨.inr (aG (i:=0) rfl),⟨.inr (aG (i:=1) rfl),trivial⟩⟩ 1 rfl 0 rfl,(hS.apart2 0 rfl 1 rfl (by decide))⟩
 refine al hS fun a hS=>?_;refine aJ (J:=fun a w=>St W0 No T 172 [(1,o),(2,pt m 0),(4,pt n 0)] [aT d g,ae e j,.box m (aY b d e) 25,.box n [aj 0,.slice none 0 0,.slice none 0 0] 25] [aK bm o l,ao ad g b.Inputs,ao aa j b.Records,bu] a w∧kz l b=some y) ?_ ?_
 ·skip;refine al hS fun a hS=>?_;obtain⟨r1,Y,hMo1⟩:=bd hM;refine bB _ (fun s a w=>∃ (P:Int),P=s∧St W0 No T 172 [(1,o),(2,pt m 0),(4,pt n 0),(34,o),(35,aj (l.length:Int)),(36,aj P)] [aT d g,ae e j,.box m (aY b d e) 25,.box n [aj 0,.slice none 0 0,.slice none 0 0] 25] [aK bm o l,ao ad g b.Inputs,ao aa j b.Records,bu] a w) Y ⟨_,rfl,hS.mt [0,1,3,2] [2,1,0,5]⟩ ?_;rintro s a w K ⟨P,rfl,hS⟩ hM hf1;have hM:kB l b P=some K:=hM;unfold kB at hM;refine al hS fun a hS=>?_;refine aA ?_;rcases cd hM with⟨e0,hM⟩|⟨e0,hM⟩
  ·refine al hS fun a hS=>?_;refine aA ?_;refine al hS fun a hS=>?_;obtain⟨bl,cs,hM⟩:=bd hM;refine wl rfl (bD (R:=bm) hS FO FP rfl rfl 0 rfl cs rfl fun g1 hf gs e2 a hS=>?_);obtain rfl:=e2;refine al hS fun a hS=>?_;refine ka hS Ed fun g2 h8 a w hk hS=>?_;refine go hS fun a w hS=>?_;refine i1 ?_;refine al hS fun a hS=>?_;obtain⟨ho,d4,hM⟩:=bd hM;refine kc hS Gm (my _ _ hS.dlt bl.Key _ d4) fun _ w hR a hk hA=>?_;obtain rfl:=hR;have hS:=bS hA;refine al hS fun a hS=>?_;rcases cd hM with⟨bs,hM⟩|⟨bs,hM⟩
   ·refine go hS fun a w hS=>?_;cases hM
    have hr:=hf1 _ rfl;subst hr;replace hMo1:=iq hMo1;have hM:=hMo1;cases hM
    refine aH hS Tryz.results26 (bj hS rfl 4 rfl gK rfl (fun h=>by cases h) (az hS rfl aF)) ?_;exact⟨d,g,e,j,rfl,hS.retOwn ⟨.inr (aG (i:=1) rfl),⟨.inr (aG (i:=2) rfl),trivial⟩⟩ 1 rfl 2 rfl,hS.retOwn ⟨.inr (aG (i:=1) rfl),⟨.inr (aG (i:=2) rfl),trivial⟩⟩ 2 rfl 3 rfl,(hS.apart2 1 rfl 2 rfl (by decide))⟩
   refine al hS fun a hS=>?_;obtain⟨hp,d5,hM⟩:=bd hM;refine wg hS rfl rfl rfl bs (be hS yq rfl rfl (dH _ _ hS.dlt bl.Key _ d5) fun _ w hR a hk hA=>?_);obtain rfl:=hR;have hS:=bS hA;refine al hS fun a hS=>?_;rcases cd hM with⟨e3,hM⟩|⟨e3,hM⟩
   ·refine go hS fun a w hS=>?_;cases hM
    have hr:=hf1 _ rfl;subst hr;replace hMo1:=iq hMo1;have hM:=hMo1;cases hM
    refine aH hS Tryz.results26 (bj hS rfl 4 rfl gK rfl (fun h=>by cases h) (az hS rfl aF)) ?_;exact⟨d,g,e,j,rfl,hS.retOwn ⟨.inr (aG (i:=1) rfl),⟨.inr (aG (i:=2) rfl),trivial⟩⟩ 1 rfl 2 rfl,hS.retOwn ⟨.inr (aG (i:=1) rfl),⟨.inr (aG (i:=2) rfl),trivial⟩⟩ 2 rfl 3 rfl,(hS.apart2 1 rfl 2 rfl (by decide))⟩
   exact fz
  exact fz
 rintro a w ⟨hS,hM⟩;unfold kz at hM;refine aJ (J:=fun a w=>St W0 No T 172 [(1,o),(2,pt m 0),(4,pt n 0)] [aT d g,ae e j,.box m (aY b d e) 25,.box n [aj 0,.slice none 0 0,.slice none 0 0] 25] [aK bm o l,ao ad g b.Inputs,ao aa j b.Records,bu] a w∧kx l b=some y) ?_ ?_
 ·skip;refine al hS fun a hS=>?_;obtain⟨r1,Y,hMo1⟩:=bd hM;refine bB _ (fun s a w=>∃ (O:Int),O=s∧St W0 No T 172 [(1,o),(2,pt m 0),(4,pt n 0),(52,o),(53,aj (l.length:Int)),(54,aj O)] [aT d g,ae e j,.box m (aY b d e) 25,.box n [aj 0,.slice none 0 0,.slice none 0 0] 25] [aK bm o l,ao ad g b.Inputs,ao aa j b.Records,bu] a w) Y ⟨_,rfl,hS.mt [0,1,2,3] [0,1,2,3]⟩ ?_;rintro s a w K ⟨O,rfl,hS⟩ hM hf1;have hM:kA l b O=some K:=hM;unfold kA at hM;refine al hS fun a hS=>?_;refine aA ?_;rcases cd hM with⟨e4,hM⟩|⟨e4,hM⟩
  ·refine al hS fun a hS=>?_;refine aA ?_;refine al hS fun a hS=>?_;obtain⟨h5,co,hM⟩:=bd hM;refine wl rfl (bD (R:=bm) hS FO FP rfl rfl 0 rfl co rfl fun g3 hg gu e5 a hS=>?_);obtain rfl:=e5;refine al hS fun a hS=>?_;refine ka hS Ed fun g4 h9 a w hk hS=>?_;refine go hS fun a w hS=>?_;rcases cd hM with⟨e6,hM⟩|⟨e6,hM⟩
   ·refine go hS fun a w hS=>?_;cases hM
    have hr:=hf1 _ rfl;subst hr;replace hMo1:=iq hMo1;have hM:=hMo1;cases hM
    refine aH hS Tryz.results26 (bj hS rfl 4 rfl gK rfl (fun h=>by cases h) (az hS rfl aF)) ?_;exact⟨d,g,e,j,rfl,hS.retOwn ⟨.inr (aG (i:=1) rfl),⟨.inr (aG (i:=2) rfl),trivial⟩⟩ 1 rfl 2 rfl,hS.retOwn ⟨.inr (aG (i:=1) rfl),⟨.inr (aG (i:=2) rfl),trivial⟩⟩ 2 rfl 3 rfl,(hS.apart2 1 rfl 2 rfl (by decide))⟩
   exact fz
  exact fz
 rintro a w ⟨hS,hM⟩;unfold kx at hM;refine al hS fun a hS=>?_;have hZ:=hS;replace hS:=(hS.freeze (R:=ad) 0 rfl 1 rfl).freeze (R:=aa) 0 rfl 3 rfl;have hY:St W0 No T 172 [] ([aT d g,ae e j]++[.box m (aY b d e) 25,.box n [aj 0,.slice none 0 0,.slice none 0 0] 25]) [aK bm o l,ao ad g b.Inputs,ao aa j b.Records,bu] _ _:=hZ.meet [0,1,2,3] (by decide) trivial ⟨rfl,rfl,rfl,rfl,trivial⟩ ⟨⟨0,rfl⟩,⟨1,rfl⟩,⟨2,rfl⟩,⟨3,rfl⟩,trivial⟩;replace hS:=hS.snap hY;obtain⟨f,d1,hM⟩:=bd hM;refine kc hS yr (eB _ _ hS.dlt b _ _ (hS.get 2 rfl) (hS.get 1 rfl) _ d1) fun _ w hR a hk hA=>?_;obtain⟨hs,gx,q,p,he,c3,c4,c0⟩:=hR;obtain rfl:=he.symm;have hS:=Aw hA c3 c4 c0;refine ka hS i8 fun t ha a w hk hS=>?_;refine go hS fun a w hS=>?_;refine aJ (J:=fun a w=>∃ (Z:Bool) (av:LI) (W:Value) (M:LV),St W0 No T 172 [(2,pt m 0),(4,pt n 0),(10,pt t 0),(11,.bool Z)] [.box m (aY b d e) 25,.box n [aj 0,.slice none 0 0,.slice none 0 0] 25,aT W M,ae q p,.box t [aj (IntKind.i64.wrap (f.Revision+1)),W,q] 25] [aK ad d b.Inputs,aK aa e b.Records,ao ad M av,ao aa p f.Records,bu,pr W0 No [aT d g,ae e j] [aK bm o l,ao ad g b.Inputs,ao aa j b.Records,bu]] a w∧lx b f Z av=some y) ?_ ?_
 ·skip;refine al hS fun a hS=>?_;obtain⟨r1,Y,hMo1⟩:=bd hM;refine bB _ (fun s a w=>∃ (E:Bool) (A:Int) (z:LI) (r:Value) (u:LV),(E,A,z)=s∧St W0 No T 172 [(1,o),(2,pt m 0),(4,pt n 0),(10,pt t 0),(11,.bool E),(70,o),(71,aj (l.length:Int)),(72,aj A)] [.box m (aY b d e) 25,.box n [aj 0,.slice none 0 0,.slice none 0 0] 25,aT r u,ae q p,.box t [aj (IntKind.i64.wrap (f.Revision+1)),r,q] 25] [aK bm o l,aK ad d b.Inputs,aK aa e b.Records,ao ad u z,ao aa p f.Records,bu,pr W0 No [aT d g,ae e j] [aK bm o l,ao ad g b.Inputs,ao aa j b.Records,bu]] a w) Y ⟨_,_,_,_,_,rfl,hS.mt [3,4,1,2,0] [5,4,3,1,0,8,2]⟩ ?_;rintro s a w K ⟨E,A,z,r,u,rfl,hS⟩ hM hf1;have hM:mZ l b f E A z=some K:=hM;unfold mZ at hM;refine al hS fun a hS=>?_;refine aA ?_;rcases cd hM with⟨ea,hM⟩|⟨ea,hM⟩
  ·refine al hS fun a hS=>?_;refine aJ (J:=fun a w=>∃ (a0:Bool) (b0:LI) (b4:Value) (a1:LV),St W0 No T 172 [(1,o),(2,pt m 0),(4,pt n 0),(10,pt t 0),(11,.bool a0),(70,o),(71,aj (l.length:Int)),(72,aj A)] [.box m (aY b d e) 25,.box n [aj 0,.slice none 0 0,.slice none 0 0] 25,aT b4 a1,ae q p,.box t [aj (IntKind.i64.wrap (f.Revision+1)),b4,q] 25] [aK bm o l,aK ad d b.Inputs,aK aa e b.Records,ao ad a1 b0,ao aa p f.Records,bu,pr W0 No [aT d g,ae e j] [aK bm o l,ao ad g b.Inputs,ao aa j b.Records,bu]] a w∧jD A a0 b0=some K) ?_ ?_
   ·skip;refine al hS fun a hS=>?_;obtain⟨c,ch,hM⟩:=bd hM;refine wl rfl (bD (R:=bm) hS FO FP rfl rfl 0 rfl ch rfl fun g5 hh gy eb a hS=>?_);obtain rfl:=eb;refine al hS fun a hS=>?_;refine ka hS Ed fun B hb a w hk hS=>?_;refine go hS fun a w hS=>?_;refine aJ (J:=fun a w=>∃ (ak:Bool),St W0 No T 172 [(1,o),(2,pt m 0),(4,pt n 0),(10,pt t 0),(11,.bool E),(13,pt B 0),(14,.bool ak),(70,o),(71,aj (l.length:Int)),(72,aj A)] [.box m (aY b d e) 25,.box n [aj 0,.slice none 0 0,.slice none 0 0] 25,aT r u,ae q p,.box t [aj (IntKind.i64.wrap (f.Revision+1)),r,q] 25,.box B (nT c) 89] [aK bm o l,aK ad d b.Inputs,aK aa e b.Records,ao ad u z,ao aa p f.Records,bu,pr W0 No [aT d g,ae e j] [aK bm o l,ao ad g b.Inputs,ao aa j b.Records,bu]] a w∧ob b f E A z c ak=some K) ?_ ?_
    ·skip;refine al hS fun a hS=>?_;obtain⟨an,cv,hM⟩:=bd hM;refine wl rfl (MY (R:=bm) (k2:=.i64) hS FO FP rfl (.inl ⟨_,rfl,rfl⟩) (.inr ⟨rfl,rfl⟩) 1 rfl cv rfl fun c6 a hS=>?_);refine al hS fun a hS=>?_;obtain⟨r2,c5,hMo2⟩:=bd hM;refine bB _ (fun s a w=>∃ (U:Bool) (N:Int),(U,N)=s∧St W0 No T 172 [(1,o),(2,pt m 0),(4,pt n 0),(10,pt t 0),(11,.bool E),(13,pt B 0),(14,.bool U),(70,o),(71,aj (l.length:Int)),(72,aj A),(80,c6),(81,aj (an.length:Int)),(82,aj N)] [.box m (aY b d e) 25,.box n [aj 0,.slice none 0 0,.slice none 0 0] 25,aT r u,ae q p,.box t [aj (IntKind.i64.wrap (f.Revision+1)),r,q] 25,.box B (nT c) 89] [aK bm o l,aK bm c6 an,aK ad d b.Inputs,aK aa e b.Records,ao ad u z,ao aa p f.Records,bu,pr W0 No [aT d g,ae e j] [aK bm o l,ao ad g b.Inputs,ao aa j b.Records,bu]] a w) c5 ⟨_,_,rfl,hS.mt [1,2,3,4,5,0] [2,0,3,4,5,6,7,8]⟩ ?_;rintro s a w f2 ⟨U,N,rfl,hS⟩ hM hf2;have hM:mY c an U N=some f2:=hM;unfold mY at hM;refine al hS fun a hS=>?_;refine aA ?_;rcases cd hM with⟨ed,hM⟩|⟨ed,hM⟩
     ·refine al hS fun a hS=>?_;refine aA ?_;refine al hS fun a hS=>?_;obtain⟨bi,cl,hM⟩:=bd hM;refine wl rfl (bD (R:=bm) hS FO FP rfl rfl 1 rfl cl rfl fun g6 hi h0 ek a hS=>?_);obtain rfl:=ek;refine al hS fun a hS=>?_;refine ka hS Ed fun g7 hc a w hk hS=>?_;refine go hS fun a w hS=>?_;rcases cd hM with⟨bt,hM⟩|⟨bt,hM⟩
      ·refine al hS fun a hS=>?_;refine wg hS rfl rfl rfl bt (ky (v:=.bool (!(bi.Key.Kind==c.Key.Kind&&bi.Key.Text.toList==c.Key.Text.toList))) hS (AE hS rfl rfl) rfl rfl fun a hS=>?_);exact fz
      exact fz
     exact fz
    rintro a w ⟨ak,hS,hM⟩;unfold ob at hM;refine aA ?_;refine aA ?_;refine dr [] hS fun w hQ hS=>?_;refine gE [0,1,2] hS fun a hS=>?_;rcases cd hM with⟨bF,hM⟩|⟨bF,hM⟩
    ·refine gE [3,4,5,6,7,8,9,10] hS fun a hS=>?_;refine eD ?_;exact fz
    refine gE [3,4,5,7,8] hS fun a hS=>?_;obtain⟨hn,d3,hM⟩:=bd hM;refine bV (i:=6) rfl (by kernel_rfl) hS rfl rfl rfl bF (be hS Kp rfl rfl (tP _ _ hS.dlt b c.Key _ _ (hS.get 1 rfl) (hS.get 2 rfl) _ d3) fun _ w hR a hk hA=>⟨eS (hk),?_⟩);obtain rfl:=hR;have hS:=bS hA;refine gE [9,10] hS fun a hS=>?_;refine eD ?_;refine al hS fun a hS=>?_;rcases cd hM with⟨el,hM⟩|⟨el,hM⟩
    ·exact fz
    refine al hS fun a hS=>?_;refine aJ (J:=fun a w=>∃ (Q:LI) (b1:Bool) (b5:Value) (a2:LV),St W0 No T 172 [(1,o),(2,pt m 0),(4,pt n 0),(10,pt t 0),(11,.bool true),(13,pt B 0),(17,b5),(18,.bool b1),(70,o),(71,aj (l.length:Int)),(72,aj A)] [aT b5 a2,.box m (aY b d e) 25,.box n [aj 0,.slice none 0 0,.slice none 0 0] 25,aT r u,ae q p,.box t [aj (IntKind.i64.wrap (f.Revision+1)),r,q] 25,.box B (nT c) 89] [aK bm o l,ao ad a2 Q,aK ad d b.Inputs,aK aa e b.Records,ao ad u z,ao aa p f.Records,bu,pr W0 No [aT d g,ae e j] [aK bm o l,ao ad g b.Inputs,ao aa j b.Records,bu]] a w∧fq f A c Q b1=some K) ?_ ?_
    ·skip;refine al hS fun a hS=>?_;replace hS:=hS.nilRow ad 75 (by decide);obtain⟨r2,c5,hMo2⟩:=bd hM;refine bB _ (fun s a w=>∃ (F:LI) (G:Bool) (D:Int) (I:Value) (H:LV),(F,G,D)=s∧St W0 No T 172 [(1,o),(2,pt m 0),(4,pt n 0),(10,pt t 0),(11,.bool true),(13,pt B 0),(17,I),(18,.bool G),(70,o),(71,aj (l.length:Int)),(72,aj A),(107,r),(108,aj (z.length:Int)),(109,aj D)] [aT I H,aT r u,.box m (aY b d e) 25,.box n [aj 0,.slice none 0 0,.slice none 0 0] 25,ae q p,.box t [aj (IntKind.i64.wrap (f.Revision+1)),r,q] 25,.box B (nT c) 89] [aK bm o l,ao ad H F,ao ad u z,aK ad d b.Inputs,aK aa e b.Records,ao aa p f.Records,bu,pr W0 No [aT d g,ae e j] [aK bm o l,ao ad g b.Inputs,ao aa j b.Records,bu]] a w) c5 ⟨_,_,_,_,_,rfl,hS.mt [0,3,1,2,4,5,6] [1,0,4,2,3,5,6,7]⟩ ?_;rintro s a w f2 ⟨F,G,D,I,H,rfl,hS⟩ hM hf2;have hM:gV f z c F G D=some f2:=hM;unfold gV at hM;refine al hS fun a hS=>?_;refine aA ?_;rcases cd hM with⟨em,hM⟩|⟨em,hM⟩
     ·refine al hS fun a hS=>?_;refine aJ (J:=fun a w=>∃ (ag:LI) (b2:Bool) (b6:Value) (a3:LV),St W0 No T 172 [(1,o),(2,pt m 0),(4,pt n 0),(10,pt t 0),(11,.bool true),(13,pt B 0),(17,b6),(18,.bool b2),(70,o),(71,aj (l.length:Int)),(72,aj A),(107,r),(108,aj (z.length:Int)),(109,aj D)] [aT b6 a3,aT r u,.box m (aY b d e) 25,.box n [aj 0,.slice none 0 0,.slice none 0 0] 25,ae q p,.box t [aj (IntKind.i64.wrap (f.Revision+1)),r,q] 25,.box B (nT c) 89] [aK bm o l,ao ad a3 ag,ao ad u z,aK ad d b.Inputs,aK aa e b.Records,ao aa p f.Records,bu,pr W0 No [aT d g,ae e j] [aK bm o l,ao ad g b.Inputs,ao aa j b.Records,bu]] a w∧ft D ag b2=some f2) ?_ ?_
      ·skip;refine al hS fun a hS=>?_;obtain⟨C,ck,hM⟩:=bd hM;refine wl rfl (cU (R:=ad) hS Ar As rfl rfl 1 rfl 2 rfl ck rfl fun g8 hj hl h1 ep eq er a hS=>?_);obtain rfl:=ep;refine qy hS (bp (k:=0) hS As 1 rfl eq er rfl id (us:=(ve C)) rfl rfl (fun h=>by cases h)) fun a hS=>?_;refine ka hS xU fun L hd a w hk hS=>?_;refine go hS fun a w hS=>?_;obtain⟨V,d2,hM⟩:=bd hM;refine kc hS DF (ln _ _ hS.dlt (hS.get 6 rfl) C.Key c.Key _ d2) fun _ w hR a hk hA=>?_;obtain rfl:=hR;have hS:=bS hA;refine al hS fun a hS=>?_;refine aJ (J:=fun a w=>∃ (S:LI) (b3:Bool) (b8:Value) (a4:LV),St W0 No T 172 [(1,o),(2,pt m 0),(4,pt n 0),(10,pt t 0),(11,.bool true),(13,pt B 0),(17,b8),(18,.bool b3),(20,pt L 0),(21,aj V),(70,o),(71,aj (l.length:Int)),(72,aj A),(107,r),(108,aj (z.length:Int)),(109,aj D)] [aT b8 a4,aT r u,.box m (aY b d e) 25,.box n [aj 0,.slice none 0 0,.slice none 0 0] 25,ae q p,.box t [aj (IntKind.i64.wrap (f.Revision+1)),r,q] 25,.box B (nT c) 89,.box L (ve C) 75] [aK bm o l,ao ad a4 S,ao ad u z,aK ad d b.Inputs,aK aa e b.Records,ao aa p f.Records,bu,pr W0 No [aT d g,ae e j] [aK bm o l,ao ad g b.Inputs,ao aa j b.Records,bu]] a w∧fu D C V S b3=some f2) ?_ ?_
       ·skip;refine aJ (J:=fun a w=>∃ (a9:Bool),St W0 No T 172 [(1,o),(2,pt m 0),(4,pt n 0),(10,pt t 0),(11,.bool true),(13,pt B 0),(17,I),(18,.bool G),(20,pt L 0),(21,aj V),(70,o),(71,aj (l.length:Int)),(72,aj A),(107,r),(108,aj (z.length:Int)),(109,aj D),(123,.bool a9)] [aT I H,aT r u,.box m (aY b d e) 25,.box n [aj 0,.slice none 0 0,.slice none 0 0] 25,ae q p,.box t [aj (IntKind.i64.wrap (f.Revision+1)),r,q] 25,.box B (nT c) 89,.box L (ve C) 75] [aK bm o l,ao ad H F,ao ad u z,aK ad d b.Inputs,aK aa e b.Records,ao aa p f.Records,bu,pr W0 No [aT d g,ae e j] [aK bm o l,ao ad g b.Inputs,ao aa j b.Records,bu]] a w∧fv f c F G D C V a9=some f2) ?_ ?_
        ·exact fz
        rintro a w ⟨a9,hS,hM⟩;unfold fv at hM;rcases cd hM with⟨et,hM⟩|⟨et,hM⟩
        ·refine al hS fun a hS=>?_;refine qy hS (bE (ps:=[(0,.tmp 126),(1,.tmp 128),(2,.tmp 130)]) hS LA xU rfl (us:=[(aX c.Key),[a8 c.Value],[aj (IntKind.i64.wrap (f.Revision+1))]]) ⟨rfl,⟨rfl,⟨rfl,trivial⟩⟩⟩ (ws:=[aj c.Key.Kind,a8 c.Key.Text,a8 c.Value,aj (IntKind.i64.wrap (f.Revision+1))]) rfl) fun a hS=>?_;refine wl rfl (bf (ps:=[(0,.tmp 131)]) hS Bn xU (zl:=[aj 0,a8 cr,a8 cr,aj 0]) (by kernel_rfl) rfl (us:=[[aj c.Key.Kind,a8 c.Key.Text,a8 c.Value,aj (IntKind.i64.wrap (f.Revision+1))]]) ⟨rfl,trivial⟩ (ws:=[aj c.Key.Kind,a8 c.Key.Text,a8 c.Value,aj (IntKind.i64.wrap (f.Revision+1))]) rfl rfl rfl rfl fun gb a w hk hS=>?_);replace hS:=(hS.lit (R:=ad) (us:=[aj c.Key.Kind,a8 c.Key.Text,a8 c.Value,aj (IntKind.i64.wrap (f.Revision+1))]) (xs:=[(aZ.mk c.Key c.Value (IntKind.i64.wrap (f.Revision+1)))]) 0 rfl (by decide) (aB.one_ (R:=ad) (x:=(aZ.mk c.Key c.Value (IntKind.i64.wrap (f.Revision+1)))) rfl) rfl rfl).freeze (R:=ad) 0 rfl 0 rfl;obtain⟨ew,hM⟩:=bo hM;refine wl rfl (bM (R:=ad) (xs:=F) (ys:=[(aZ.mk c.Key c.Value (IntKind.i64.wrap (f.Revision+1)))]) hS Bn (by decide) (by decide) rfl rfl 0 rfl 3 rfl 0 rfl ew rfl fun ht h2 a w hk hS=>?_);exact fz
        exact fz
       rintro a w ⟨S,b3,b8,a4,hS,hM⟩;unfold fu at hM;refine al hS fun a hS=>?_;rcases cd hM with⟨ex,hM⟩|⟨ex,hM⟩
       ·refine al hS fun a hS=>?_;refine wl rfl (bf (ps:=[(0,.tmp 137)]) hS Bn xU (zl:=[aj 0,a8 cr,a8 cr,aj 0]) (by kernel_rfl) rfl (us:=[(ve C)]) ⟨rfl,trivial⟩ (ws:=(ve C)) rfl rfl rfl rfl fun gi a w hk hS=>?_);replace hS:=(hS.lit (R:=ad) (us:=(ve C)) (xs:=[C]) 0 rfl (by decide) (aB.one_ (R:=ad) (x:=C) rfl) rfl rfl).freeze (R:=ad) 0 rfl 0 rfl;obtain⟨ey,hM⟩:=bo hM;refine wl rfl (bM (R:=ad) (xs:=S) (ys:=[C]) hS Bn (by decide) (by decide) rfl rfl 0 rfl 3 rfl 0 rfl ey rfl fun hu h3 a w hk hS=>?_);exact fz
       exact fz
      rintro a w ⟨ag,b2,b6,a3,hS,hM⟩;unfold ft at hM;exact fz
     refine al hS fun a hS=>?_;cases hM
     have hr:=hf2 _ rfl;subst hr;have hM:fq f A c F G=some K:=hMo2;exact⟨_,_,_,_,hS.mt [0,2,3,1,4,5,6] [0,1,3,4,2,5,6,7],hM⟩
    rintro a w ⟨Q,b1,b5,a2,hS,hM⟩;unfold fq at hM;refine aJ (J:=fun a w=>∃ (af:LI) (b9:Value) (a5:LV),St W0 No T 172 [(1,o),(2,pt m 0),(4,pt n 0),(10,pt t 0),(11,.bool true),(17,b9),(70,o),(71,aj (l.length:Int)),(72,aj A)] [aT b9 a5,.box m (aY b d e) 25,.box n [aj 0,.slice none 0 0,.slice none 0 0] 25,aT r u,ae q p,.box t [aj (IntKind.i64.wrap (f.Revision+1)),r,q] 25] [aK bm o l,ao ad a5 af,aK ad d b.Inputs,aK aa e b.Records,ao ad u z,ao aa p f.Records,bu,pr W0 No [aT d g,ae e j] [aK bm o l,ao ad g b.Inputs,ao aa j b.Records,bu]] a w∧fp A af=some K) ?_ ?_
    ·skip;refine al hS fun a hS=>?_;rcases cd hM with⟨f3,hM⟩|⟨f3,hM⟩
     ·refine al hS fun a hS=>?_;refine qy hS (bE (ps:=[(0,.tmp 145),(1,.tmp 147),(2,.tmp 149)]) hS LA xU rfl (us:=[(aX c.Key),[a8 c.Value],[aj (IntKind.i64.wrap (f.Revision+1))]]) ⟨rfl,⟨rfl,⟨rfl,trivial⟩⟩⟩ (ws:=[aj c.Key.Kind,a8 c.Key.Text,a8 c.Value,aj (IntKind.i64.wrap (f.Revision+1))]) rfl) fun a hS=>?_;refine wl rfl (bf (ps:=[(0,.tmp 150)]) hS Bn xU (zl:=[aj 0,a8 cr,a8 cr,aj 0]) (by kernel_rfl) rfl (us:=[[aj c.Key.Kind,a8 c.Key.Text,a8 c.Value,aj (IntKind.i64.wrap (f.Revision+1))]]) ⟨rfl,trivial⟩ (ws:=[aj c.Key.Kind,a8 c.Key.Text,a8 c.Value,aj (IntKind.i64.wrap (f.Revision+1))]) rfl rfl rfl rfl fun gp a w hk hS=>?_);replace hS:=(hS.lit (R:=ad) (us:=[aj c.Key.Kind,a8 c.Key.Text,a8 c.Value,aj (IntKind.i64.wrap (f.Revision+1))]) (xs:=[(aZ.mk c.Key c.Value (IntKind.i64.wrap (f.Revision+1)))]) 0 rfl (by decide) (aB.one_ (R:=ad) (x:=(aZ.mk c.Key c.Value (IntKind.i64.wrap (f.Revision+1)))) rfl) rfl rfl).freeze (R:=ad) 0 rfl 0 rfl;obtain⟨f4,hM⟩:=bo hM;refine wl rfl (bM (R:=ad) (xs:=Q) (ys:=[(aZ.mk c.Key c.Value (IntKind.i64.wrap (f.Revision+1)))]) hS Bn (by decide) (by decide) rfl rfl 0 rfl 3 rfl 0 rfl f4 rfl fun hv h4 a w hk hS=>?_);exact fz
     exact fz
    rintro a w ⟨af,b9,a5,hS,hM⟩;unfold fp at hM;exact fz
   rintro a w ⟨a0,b0,b4,a1,hS,hM⟩;unfold jD at hM;exact fz
  refine al hS fun a hS=>?_;cases hM
  have hr:=hf1 _ rfl;subst hr;have hM:lx b f E z=some y:=hMo1;exact⟨_,_,_,_,hS.mt [0,1,2,3,4] [1,2,3,4,5,6],hM⟩
 rintro a w ⟨Z,av,W,M,hS,hM⟩;unfold lx at hM;refine aA ?_;refine al hS fun a hS=>?_;rcases cd hM with⟨f6,hM⟩|⟨f6,hM⟩
 ·refine go hS fun a w hS=>?_;replace hS:=hS.thaw 5 rfl;cases hM
  refine aH hS Tryz.results26 (bj hS rfl 3 rfl gK rfl (fun h=>by cases h) (az hS rfl aF)) ?_;exact⟨d,g,e,j,rfl,hS.retOwn ⟨.inr (aG (i:=0) rfl),⟨.inr (aG (i:=1) rfl),trivial⟩⟩ 0 rfl 1 rfl,hS.retOwn ⟨.inr (aG (i:=0) rfl),⟨.inr (aG (i:=1) rfl),trivial⟩⟩ 1 rfl 2 rfl,(hS.apart2 0 rfl 1 rfl (by decide))⟩
 refine al hS fun a hS=>?_;rcases cd hM with⟨f7,hM⟩|⟨f7,hM⟩
 ·refine go hS fun a w hS=>?_;replace hS:=hS.thaw 5 rfl;cases hM
  refine aH hS Tryz.results26 (bj hS rfl 3 rfl gK rfl (fun h=>by cases h) (az hS rfl aF)) ?_;exact⟨d,g,e,j,rfl,hS.retOwn ⟨.inr (aG (i:=0) rfl),⟨.inr (aG (i:=1) rfl),trivial⟩⟩ 0 rfl 1 rfl,hS.retOwn ⟨.inr (aG (i:=0) rfl),⟨.inr (aG (i:=1) rfl),trivial⟩⟩ 1 rfl 2 rfl,(hS.apart2 0 rfl 1 rfl (by decide))⟩
 refine al hS fun a hS=>?_;rcases cd hM with⟨fd,hM⟩|⟨fd,hM⟩
 ·refine go hS fun a w hS=>?_;replace hS:=hS.thaw 5 rfl;cases hM
  refine aH hS Tryz.results26 (bj hS rfl 3 rfl gK rfl (fun h=>by cases h) (az hS rfl aF)) ?_;exact⟨d,g,e,j,rfl,hS.retOwn ⟨.inr (aG (i:=0) rfl),⟨.inr (aG (i:=1) rfl),trivial⟩⟩ 0 rfl 1 rfl,hS.retOwn ⟨.inr (aG (i:=0) rfl),⟨.inr (aG (i:=1) rfl),trivial⟩⟩ 1 rfl 2 rfl,(hS.apart2 0 rfl 1 rfl (by decide))⟩
 refine go hS fun a w hS=>?_;cases hM
 refine aH hS Tryz.results26 (bj hS rfl 1 rfl gK rfl (fun h=>by cases h) (az hS rfl aF)) ?_;exact⟨W,M,q,p,rfl,hS.retOwn ⟨.inr (aG (i:=2) rfl),⟨.inr (aG (i:=3) rfl),trivial⟩⟩ 2 rfl 2 rfl,hS.retOwn ⟨.inr (aG (i:=2) rfl),⟨.inr (aG (i:=3) rfl),trivial⟩⟩ 3 rfl 3 rfl,(hS.apart2 2 rfl 3 rfl (by decide))⟩
end
end
end Go.Proofs.YtdcojaccpnabkaaGreatDoor
