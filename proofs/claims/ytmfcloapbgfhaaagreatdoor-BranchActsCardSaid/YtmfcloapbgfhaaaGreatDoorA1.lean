/- Texts of the proof, joined (1). -/
import Derived.Test.YtmfcloapbgfhaaaGreatDoorA0
import Derived.Maps.RangeRun
import Derived.Test.YtmfcloapbgfhaaaGreatDoorProg
set_option linter.unusedVariables false
set_option linter.unusedSimpArgs false
set_option linter.unusedSectionVars false
namespace Go.Proofs.YtmfcloapbgfhaaaGreatDoor
section
open Go.RowKit
variable {pos:String} {af:Array Edge} {g:Option (Nat×Bool)}
def Gf (f g:cA):cA:=⟨fun T w=>f.p T w∧g.p T w,fun h k n=>⟨f.keep h.1 k n,g.keep h.2 k n⟩⟩
def zg:cA:=⟨fun _ _=>True,fun _ _ _=>trivial⟩
def Nq (sz:Nat) (v v':Value) (lo hi n:Nat):Prop:=∃ A c,v = .slice A n c∧n≤c∧lo≤hi∧hi≤n∧v' = .slice (if c=lo then A else A.map (·.add (lo*sz))) (hi-lo) (c-lo)
def Jk (sz:Nat) (v v':Value) (lo hi n:Nat):cA:=⟨fun _ _=>Nq sz v v' lo hi n,fun h _ _=>h⟩
section
variable {P:Program} {W:World} {M T E:Nat→Prop} {n:Nat} {G G':List (Nat×Value)} {D D' D0 Dr rs:List db} {F F':List cA} {a:Act} {w w':World} {K:Act→World→Prop}
theorem AG {d:Option Nat} {f:Nat} {caps:Array Operand} {ty:TypeId} {vs:bv} (hS:St W M T n G D F a w) (hv:evs G caps.toList=some vs) :
  Ye P ⟨d,.makeFunc (.func f) #[] caps,ty,pos,af,g⟩ a E w (.func (.func f) #[] vs.toArray) :=
 Ye.of fun w=>by
  have h1:(caps.map a.eval)=vs.toArray:=by
   apply Ee.1;rw [Array.toList_map,hS.evs hv]
  simp [execOp,Instr.makeFunc,h1]
theorem St.freezeBox {b:Nat} {cs:bv} {t:TypeId} (h:St W M T n G D F a w) (i:Nat) (hi:D[i]? = some (.box b cs t)):St W M T n G (D.eraseIdx i) (ln b 0 cs::F) a w:=by
 have hlt:=(bN.1 hi).1;have hD:=(bN.1 hi).2;have ho:w.heap[b]? = some (.cells cs.toArray t (0,0)):=h.own _ (a6 hi);refine (h.drop i).fact _ ⟨fun hT=>?_,(si.1 ho).1,fun j u hu=>?_⟩
 ·rcases hT with hT | ⟨s,hs,hT⟩
  ·exact (h.free _ (a6 hi) b rfl).1 hT
  ·obtain⟨z,hz⟩:=kg.1 hs;rw [AR] at hz;split at hz
   ·rename_i hzi;have hzl:=(bN.1 hz).1;have:=gG.1 h.apart z i hzl hlt hzi b (by rw [(bN.1 hz).2]; exact hT);rw [hD] at this; exact this rfl
   ·rename_i hzi;have hzl:=(bN.1 hz).1;have:=gG.1 h.apart i (z+1) hlt hzl (by omega) b (by rw [hD]; rfl);rw [(bN.1 hz).2] at this; exact this hT
 ·rw [tC,(AX.of ho).cell];simpa using hu
theorem Ld {α:Type} {R:aY α} {xs ys:List α} {e e' t:TypeId} {v:Value} {cl:bv} {lo hi:Int} {ag:Bool} (hS:St W M T n G D F a w) (ht:lm P t=some e) (he:n7 P e=some (ag,R.size)) (q:Nat) (hq:D[q]? = some (.own v e' R.size cl)) (j:Nat) (hj:F[j]? = some (an R cl xs)) (hg:o0 xs lo hi=some ys) :
  ∃ v',(∀ (T:Nat→Prop) (w:World),aE R T w v xs→aE R T w v' ys)∧Nq R.size v v' lo.toNat hi.toNat xs.length∧(∀ {E:Nat→Prop} {d:Option Nat} {ty:TypeId} {X:Operand} {olo ohi:Option Operand} {pos:String} {af:Array Edge} {g:Option (Nat×Bool)} {k1 k2:IntKind},ev G X=some v→((∃ x,olo=some x∧ev G x=some (.int k1 lo))∨(olo=none∧lo=0))→((∃ x,ohi=some x∧ev G x=some (.int k2 hi))∨(ohi=none∧hi=xs.length))→Ye P ⟨d,.slice t X olo ohi none,ty,pos,af,g⟩ a E w v'):=by
 obtain⟨q1,q2,q3,rfl⟩:=rA hg;obtain⟨A,c,hv,h1,h2,hS'⟩:=Kv (lo:=lo.toNat) (hi:=hi.toNat) hS q hq j hj (by omega) (by omega);refine⟨_,fun T w h=>?_,⟨A,c,hv,h1,by omega,by omega,rfl⟩,fun hX hlo hhi=>KF hS ht he q1 q2 q3 h1 hv hX hlo hhi⟩;subst hv;refine h.cut (by omega) (by omega) _ (fun hlt b o hA=>?_);rw [if_neg (by omega),hA];simp [lp]
theorem rj.mid {e:TypeId} {sz:Nat} {v:Value} {cl us:bv} {B:Nat} (h:rj w B e sz v cl) (o:Nat) (hl:o+us.length≤cl.length) (hpos:0<us.length) :
  ∃ g off m c cs,v = .slice (some ⟨g,off,none⟩) m c∧cl.length=m*sz∧m≤c∧AX w g cs e∧off+c*sz≤cs.size∧rj (w.setCells g (off+o) us) B e sz v (mZ cl o us)∧(∀ j,j<us.length→(w.cell? ⟨g,off+o+j,none⟩).isSome=true)∧(∀ j,j<us.length→w.frozen? ⟨g,off+o+j,none⟩=false):=by
 rcases h with⟨_,rfl⟩|⟨g,off,m,c,cs,rfl,h1,hb,hg,hmc,hc,hsz,hcs⟩
 ·simp only [sH] at hl; omega
 have hmz:m*sz≤c*sz:=kQ _ hmc;refine⟨g,off,m,c,cs,rfl,h1,hmc,hg,hsz,?_,fun j hj=>?_,fun j hj=>hg.free (by omega)⟩
 ·obtain⟨fz,hg1,hfz⟩:=hg;obtain⟨cs',a1,a2,a3,a4⟩:=eb g e fz us (off+o) w cs hg1;refine .inr ⟨g,off,m,c,cs',rfl,?_,hb,⟨fz,a1,by rw [a2]; exact hfz⟩,hmc,hc,by rw [a2]; exact hsz,fun j u hu=>?_⟩
  ·unfold mZ; simp only [cS,fe,sm]; omega
  ·rw [xz _ _ _ _ hl] at hu;split at hu
   ·rename_i hj;have:=a4 (by omega) _ u hu;rwa [show off+o+(j-o)=off+j by omega] at this
   ·rename_i hj;rw [a3 _ (by omega)]; exact hcs j u hu
 ·rw [hg.cell,n3 (by omega)]; rfl
theorem EP {α:Type} {R:aY α} {T:Nat→Prop} {w:World} {B:Nat} {e:TypeId} {v:Value} {cl:bv} {xs:List α} {A:Option Addr} {m c:Nat} (h:rj w B e R.size v cl) (hs:0<R.size) (hr:aA R T w cl xs) (hv:v = .slice A m c):m=xs.length:=by
 rcases h with⟨rfl,rfl⟩|⟨g,off,m',c',cs,rfl,h1,_⟩
 ·injection hv with _ e2 _;have:=hr.1;rw [← e2];cases xs with
  | nil=>rfl
  | cons x r=>simp [kf] at this; omega
 ·injection hv with _ e2 _;subst e2;exact AO hs (h1.symm.trans hr.1)
theorem aA.mid {α:Type} {R:aY α} {T:Nat→Prop} {w:World} {cl us:bv} {xs ys:List α} (h:aA R T w cl xs) (k:aA R T w us ys) {lo:Nat} (hl:lo+ys.length≤xs.length):aA R T w (mZ cl (lo*R.size) us) (xs.take lo++ys++xs.drop (lo+ys.length)):=by
 have h1:=h.cut (cR lo) (by omega);have h2:=h.cut hl (cX _);rw [Nat.zero_mul,B4,B4] at h1;rw [i6,Gc (by rw [h.1]; exact cX _)] at h2;have h3:=(h1.append k).append h2;unfold mZ;rw [k.1,← kf];exact h3
theorem AW (z:Value):∀ m:Nat,(Builtin.zeroCells z.cells m).toList=(List.replicate m z.cells.toList).flatten:=by
 intro m;rw [← yb];simp [Builtin.zeroCells,madeCells]
theorem Kd {α:Type} {R:aY α} {z0:α} {xs:List α} {ty t e:TypeId} {x:Operand} {bt lo hi:Nat} {v v':Value} {cl zs:bv} (hS:St W M T n G D F a w) (he:zJ P t=some (e,R.size,bt)) (hz:i7 P e=some zs) (hx:ev G x=some v') (i:Nat) (hi_:D[i]? = some (.own v e R.size cl)) (p:Nat) (hp:F[p]? = some (an R cl xs)) {m0:Nat} (hw:Nq R.size v v' lo hi m0) (hr:R.rel (dT T D) w zs z0)
  (k:∀ cl' w',Kt (fun j=>v.ownBlock=some j) w w'→St W M T n G (D.set i (.own v e R.size cl')) (an R cl' (xs.take lo++List.replicate (hi-lo) z0++xs.drop hi)::F) a w'→K a w'):qT P ⟨none,.call { callee:=.builtin .clear,args:=#[x],argTypes:=#[t] },ty,pos,af,g⟩ a w K:=by
 obtain⟨hown,hsz⟩:=hS.own _ (a6 hi_);have hrow:aA R (dT T D) w cl xs:=hS.get p hp;obtain⟨A,c,hv,hnc,hlh,hhn,hv'⟩:=hw;obtain rfl:m0=xs.length:=EP hown hsz hrow hv;obtain⟨ht,_⟩:=tP he;obtain⟨z,hzl,hzr⟩:=yx hz w;have hx':=hS.ev hx;by_cases h0:hi-lo=0
 ·have h1:(execOp a.eval ⟨none,.call { callee:=.builtin .clear,args:=#[x],argTypes:=#[t] },ty,pos,af,g⟩).run P w = .ok (.value (.tuple #[])) w:=by
   rw [h0] at hv';subst hv';simp only [execOp,resolve,invoke,builtin];generalize (if c=lo then A else A.map (·.add (lo*R.size)))=A' at hx' ;cases A' <;> simp [Builtin.clear_,hx',run_underlying ht]
  refine ux h1 (k cl w (au _ _) ?_);rw [h0];have e1:xs.take lo++List.replicate 0 z0++xs.drop hi=xs:=by
   rw [List.replicate_zero,uo,show hi=lo by omega,Gd]
  rw [e1];have h2:=(hS.fact (an R cl xs) hrow).turn hi_ (w':=w) (au _ _) (r':=.own v e R.size cl) ⟨hown,hsz⟩ (fun j hj=>.inl hj);exact h2
 ·have hrows:=aA.rep hr (hi-lo);have hlen:=hrows.1;rw [List.length_replicate] at hlen;have hclen:=hrow.1;have q1:lo*R.size+(hi-lo)*R.size≤cl.length:=by
   rw [hclen,← kf]; exact kQ _ (by omega)
  have q2:0<(hi-lo)*R.size:=Nat.mul_pos (by omega) hsz;obtain⟨gb,off,m,c',cs,hv2,h1,hmc,hg,hcs,hown',hcell,hfree⟩:=hown.mid (us:=(List.replicate (hi-lo) zs).flatten) (lo*R.size) (by rw [hlen]; exact q1) (by rw [hlen]; exact q2);have hrow':=hrow.mid hrows (lo:=lo) (by rw [List.length_replicate]; omega);rw [List.length_replicate,show lo+(hi-lo)=hi by omega] at hrow';rw [hv] at hv2;injection hv2 with e1 e2 e3;subst e1 e2 e3;have hA:(if c=lo then (some ⟨gb,off,none⟩:Option Addr) else (some (⟨gb,off,none⟩:Addr)).map (·.add (lo*R.size)))=some ⟨gb,off+lo*R.size,none⟩:=by
   rw [if_neg (by omega)]; simp [lp]
  rw [hA] at hv';subst hv';have hst:=run_storeCells_cells (P:=P) gb (off+lo*R.size) (List.replicate (hi-lo) zs).flatten 0 w (by simpa using hcell) (by simpa using hfree) (hrows.cell hsz);simp only [sh] at hst;have hzc:(Builtin.zeroCells z.cells (hi-lo)).toList=(List.replicate (hi-lo) zs).flatten:=by rw [AW,hzl]
  have h1:(execOp a.eval ⟨none,.call { callee:=.builtin .clear,args:=#[x],argTypes:=#[t] },ty,pos,af,g⟩).run P w = .ok (.value (.tuple #[])) (w.setCells gb (off+lo*R.size) (List.replicate (hi-lo) zs).flatten):=by
   obtain⟨m',hm'⟩:∃ m',hi-lo=m'+1:=⟨hi-lo-1,by omega⟩;rw [hm'] at hx' hzc hst ⊢;simp [execOp,resolve,invoke,builtin,Builtin.clear_,hx',run_underlying ht,hzr,hzc,hst]
  subst hv;have hkt:Kt (fun j=>(Value.slice (some ⟨gb,off,none⟩) xs.length c).ownBlock=some j) w (w.setCells gb (off+lo*R.size) (List.replicate (hi-lo) zs).flatten):=(Kt.setCells _ _ _ _).mono fun j h=>by rw [h]; rfl
  refine ux h1 (k (mZ cl (lo*R.size) (List.replicate (hi-lo) zs).flatten) _ hkt ?_);exact (hS.fact (an R _ _) hrow').turn hi_ hkt (r':=.own (.slice (some ⟨gb,off,none⟩) xs.length c) e R.size (mZ cl (lo*R.size) (List.replicate (hi-lo) zs).flatten)) ⟨hown',hsz⟩ (fun j hj=>.inl hj)
theorem zE {α:Type} {R:aY α} {xs:List α} {x:α} {t e e':TypeId} {v v':Value} {cl:bv} {i:Int} {lo hi:Nat} {ag:Bool} (hS:St W M T n G D F a w) (ht:lm P t=some e) (he:n7 P e=some (ag,R.size)) (q:Nat) (hq:D[q]? = some (.own v e' R.size cl)) (j:Nat) (hj:F[j]? = some (an R cl xs)) {m0:Nat} (hw:Nq R.size v v' lo hi m0) (h0:decide (0≤i)=true) (h1:decide (i<((hi-lo:Nat):Int))=true) (hg:bu xs ((lo:Int)+i)=some x) :
  ∃ b o p cs,R.rel (dT T D) w cs x∧Jf v b o R.size ((lo:Int)+i) p∧(∀ k u,cs[k]? = some u→cl[p+k]? = some u)∧(∀ {E:Nat→Prop} {d:Option Nat} {ty:TypeId} {X Y:Operand} {pos:String} {af:Array Edge} {g:Option (Nat×Bool)} {k:IntKind},ev G X=some v'→ev G Y=some (.int k i)→Ye P ⟨d,.indexAddr t X Y,ty,pos,af,g⟩ a E w (.pointer (some ⟨b,o,none⟩))):=by
 obtain⟨b,off,c,rfl,cs,g1,g2⟩:=CA hS q hq j hj hg;have h0:=of_decide_eq_true h0;have h1:=of_decide_eq_true h1;obtain⟨A,c2,hv,hnc,hlh,hhn,rfl⟩:=hw;injection hv with e1 e2 e3;subst e1 e2 e3;have hA:(if c=lo then (some ⟨b,off,none⟩:Option Addr) else (some (⟨b,off,none⟩:Addr)).map (·.add (lo*R.size)))=some ⟨b,off+lo*R.size,none⟩:=by
  rw [if_neg (by omega)]; simp [lp]
 rw [hA];have he2:off+((lo:Int)+i).toNat*R.size=off+lo*R.size+i.toNat*R.size:=by
  rw [show ((lo:Int)+i).toNat=lo+i.toNat by omega,kf]; omega
 refine⟨b,off+((lo:Int)+i).toNat*R.size,_,cs,g1,⟨off,_,_,rfl,rfl,rfl⟩,g2,fun hX hY=>Ye.of fun w=>?_⟩;rw [he2];simp [execOp,hS.ev hX,hS.ev hY,qz ht he h0 h1]
theorem Nc {d:Option Nat} {x:Operand} {t e:TypeId} {ty:TypeId} {sz:Nat} {v v':Value} {lo hi m:Nat} (hS:St W M T n G D F a w) (ht:lm P t=some e) (hx:ev G x=some v') (hw:Nq sz v v' lo hi m) :
  Ye P ⟨d,.call { callee:=.builtin .len,args:=#[x],argTypes:=#[t] },ty,pos,af,g⟩ a E w (.int .i64 ((hi-lo:Nat):Int)):=by
 obtain⟨A,c2,hv,hnc,hlh,hhn,rfl⟩:=hw;exact Fd hS ht hx ⟨_,_,rfl⟩
theorem cA.dn (f:cA) {T:Nat→Prop} {w:World} (h:f.p T w):f.p (dT T []) w:=f.keep h (au _ _) fun k hk=>by
 rcases hk with hk | ⟨r,hr,_⟩
 ·exact .inl hk
 ·cases hr
end
section
variable {κ ν:Type} {P:Program} {W:World} {M T E:Nat→Prop} {n:Nat} {G G':List (Nat×Value)} {D D':List db} {F F':List cA} {a:Act} {w w':World} {K:Act→World→Prop}
variable {kt et:TypeId} {RK:aY κ} {ak:Bool} {RV:aY ν} {av:Bool} {q:κ→κ→Bool} {b clock:Nat} {es:Array MapEntry} {xs:List (κ×ν)}
theorem ML {t t2 ty:TypeId} {X Y:Operand} (hS:St W M T n G D F a w) (ht:FN P t=some (kt,et)) (hK:xL P kt RK ak q) (i:Nat) (hi:D[i]? = some (.obj b (.map es clock))) (j:Nat) (hj:F[j]? = some (pa RK ak RV av es xs))
  {c:bv} {key:κ} (hc:RK.rel (dT T D) w c key) (hX:ev G X=some (.map (some b))) (hY:ev G Y=some (bp ak c))
  (k:∀ es' ck' w',Kt (fun j=>j=b) w w'→St W M T n G (D.set i (.obj b (.map es' ck'))) (pa RK ak RV av es' (sN q key xs)::F) a w'→K a w'):qT P ⟨none,.call { callee:=.builtin .delete,args:=#[X,Y],argTypes:=#[t,t2] },ty,pos,af,g⟩ a w K:=by
 have hr:w.heap[b]? = some (.map es clock):=hS.own _ (a6 hi);have hm:=hS.mapOk j hj;obtain⟨hl,hkeys⟩:=vw hm;have hf:=rL hK hc w hl hkeys;have hch:=hK.check es.isEmpty _ _ w _ _ hc;have fin:∀ es' ck',(Builtin.delete_ #[t,t2] ty #[.map (some b),bp ak c]).run P w = .ok (.tuple #[]) { w with heap:=w.heap.setIfInBounds b (.map es' ck') }→bV RK ak RV av (dT T D) w es' (sN q key xs)→qT P ⟨none,.call { callee:=.builtin .delete,args:=#[X,Y],argTypes:=#[t,t2] },ty,pos,af,g⟩ a w K:=fun es' ck' hrun hok=>by
  refine ux (w':={ w with heap:=w.heap.setIfInBounds b (.map es' ck') }) (v:=.tuple #[]) (by simp [execOp,resolve,invoke,builtin,hS.ev hX,hS.ev hY,hrun]) (k es' ck' _ ((pE hr).mono fun j hj=>(fq hj).symm) ?_);exact (hS.fact (pa RK ak RV av es' _) hok).turn hi (pE hr) (r':=.obj b (.map es' ck')) (qd hr).1 fun j hj=>.inl hj
 cases hp:tT q key xs with
 | none =>
  obtain⟨_,_,g3⟩:=ru hp;rw [hp] at hf;refine fin es clock ?_ (by rw [g3]; exact hm);simp [Builtin.delete_,run_underlying (l9 ht),vI hr,hch,hf,y4,CK _ hr]
 | some p =>
  obtain⟨x0,hx0,hq0,_,_,g3⟩:=rx hp;have hpi:p<es.size:=by rw [hm.1]; exact (bN.1 hx0).1
  have he0:es[p]? = some es[p]:=n3 hpi;rw [hp] at hf;have hat:y4 es.toList 0 (some p)=some (p,es[p].val):=by simp [y4,he0]
  rw [hat] at hf;refine fin (es.eraseIdxIfInBounds p) clock ?_ ⟨?_,fun z e x he hx=>?_⟩
  ·simp [Builtin.delete_,run_underlying (l9 ht),vI hr,hch,hf,CK _ hr]
  ·rw [g3];have h1:(es.eraseIdxIfInBounds p).size=es.size-1:=by simp [Array.eraseIdxIfInBounds,hpi]
   rw [h1,List.length_eraseIdx,if_pos (by rw [← hm.1]; exact hpi),hm.1]
  ·rw [g3,AR] at hx;have he2:(es.eraseIdxIfInBounds p)[z]? = if z<p then es[z]? else es[z+1]?:=by
    simp only [Array.eraseIdxIfInBounds,hpi,dif_pos];rw [Array.getElem?_eraseIdx]
   rw [he2] at he;split at hx
   ·rename_i hz;rw [if_pos hz] at he;exact hm.2 z e x he hx
   ·rename_i hz;rw [if_neg hz] at he;exact hm.2 (z+1) e x he hx
end
end
section
open Go.RowKit
section
variable {P:Program} {W:World} {M T E:Nat→Prop} {n:Nat} {G G':List (Nat×Value)} {D D' D0 Dr rs:List db} {F F':List cA} {a:Act} {w w':World} {K:Act→World→Prop}
theorem yY (w:World) (t ty e:TypeId) (size bytes:Nat) (E:C5 P t e size bytes) (B:Nat) (v:Value) (xs:bv) (hown:rj w B e size v xs)
  (A:Option Addr) (m c:Nat) (news:bv) (hl:news.length=m*size) (hat:At w A news) (h1:∀ u∈news,u.oneCell'=true)
  (h63:xs.length+news.length≤maxLen) (hbytes:(xs.length+news.length)*bytes≤140737488355328) (hbase:B≤w.heap.size) {v':Value} {w':World}
  (hrun:(Builtin.append_ #[t,t] ty #[v,.slice A m c]).run P w = .ok v' w'):rj w' B e size v xs:=by
 obtain⟨ht,⟨i,z,hi,hz,hsize,hby,hzs⟩,hpos⟩:=E;subst hsize hby;by_cases hm:m=0
 ·subst hm;rcases hown with⟨rfl,rfl⟩|⟨g,off,n,cap,cs,rfl,a1,hb,hg,hnc,hc,hsz,hcs⟩
  ·rw [iM w t ty e i ht hi none 0 0 c A (cX _)] at hrun;injection hrun with _ h; subst h;exact .inl ⟨rfl,rfl⟩
  ·rw [iM w t ty e i ht hi _ n cap c A hnc] at hrun;injection hrun with _ h; subst h;exact .inr ⟨g,off,n,cap,cs,rfl,a1,hb,hg,hnc,hc,hsz,hcs⟩
 ·have hne:news≠[]:=by rintro rfl; rw [sH] at hl; rcases Ei.1 hl.symm with h | h <;> omega
  obtain⟨sb,soff,rfl,hcell⟩:∃ b off,A=some ⟨b,off,none⟩∧∀ j u,news[j]? = some u→w.cell? ⟨b,off+j,none⟩=some u:=by
   rcases hat with h | h
   ·exact absurd h hne
   ·exact h
  have hcell':∀ j u,news[j]? = some u→w.cell? ((⟨sb,soff,none⟩:Addr).add j)=some u:=fun j u hu=>by rw [Addr.add_lit]; exact hcell j u hu
  have hmn:m≤news.length:=by rw [hl]; exact yp _ hpos
  rcases hown with⟨rfl,rfl⟩|⟨g,off,n,cap,cs,rfl,a1,hb,hg,hnc,hc,hsz,hcs⟩
  ·exact .inl ⟨rfl,rfl⟩
  ·have hnx:n≤xs.length:=by rw [a1]; exact yp _ hpos
   by_cases hroom:n+m≤cap
   ·have hfit:off+n*i.size+news.length≤cs.size:=by
     have:(n+m)*i.size≤cap*i.size:=kQ _ hroom;rw [hl]; rw [kf] at this; omega
    have hr:=run_append_room_cells (P:=P) w t ty e i ht hi g off n cap ⟨sb,soff,none⟩ m c news hl hcell' h1 hroom
     (fun j hj=>by rw [hg.cell,n3 (by omega)]; rfl)
     (fun j hj=>hg.free (by omega))
    obtain⟨fz,hg0,hfz⟩:=id hg;obtain⟨cs',c1,c2,c3,c4⟩:=eb g e fz news (off+n*i.size) w cs hg0;rw [hr] at hrun;injection hrun with _ h; subst h;refine .inr ⟨g,off,n,cap,cs',rfl,a1,hb,⟨fz,c1,by rw [c2]; exact hfz⟩,hnc,hc,by rw [c2]; exact hsz,fun j u hu=>?_⟩;have hj:j<xs.length:=(bN.1 hu).1;rw [c3 _ (by omega)];exact hcs j u hu
   ·have hr:=run_append_grow (P:=P) w t ty e i z ht hi hz ⟨g,off,none⟩ n cap xs a1 (fun j u hu=>by rw [Addr.add_lit,hg.cell]; exact hcs j u hu)
     ⟨sb,soff,none⟩ m c news hl hcell' (by omega) (by simp only [maxLen] at h63; omega)
     (growslice_fits (by omega) (by
      have h2:(n+m)*i.bytes≤(xs.length+news.length)*i.bytes:=kQ _ (by omega);omega))
    rw [hr] at hrun;injection hrun with _ h; subst h;exact .inr ⟨g,off,n,cap,cs,rfl,a1,hb,hg.eqb (Below.heap_alloc w.drew _ g hg.lt),hnc,hc,hsz,hcs⟩
theorem St.notD {r:db} (h:St W M T n G D F a w) (i:Nat) (hi:D[i]? = some r) {k:Nat} (hk:r.dom k):¬ dT T (D.eraseIdx i) k:=by
 have hlt:=(bN.1 hi).1;have hD:=(bN.1 hi).2;rintro (hT | ⟨s,hs,hT⟩)
 ·exact (h.free _ (a6 hi) k hk).1 hT
 ·obtain⟨z,hz⟩:=kg.1 hs;rw [AR] at hz;split at hz
  ·rename_i hzi;have hzl:=(bN.1 hz).1;have:=gG.1 h.apart z i hzl hlt hzi k (by rw [(bN.1 hz).2]; exact hT);rw [hD] at this; exact this hk
  ·rename_i hzi;have hzl:=(bN.1 hz).1;have:=gG.1 h.apart i (z+1) hlt hzl (by omega) k (by rw [hD]; exact hk);rw [(bN.1 hz).2] at this; exact this hT
end
end
section
open Go.RowKit
structure QB (α ν β:Type) where
 R:aY α
 RN:aY ν
 RI:aY β
 et:TypeId
 get:α→List β
 put:List β→α→α
 nf:Value→α→ν
 size:RN.size=R.size
 pos:0<RI.size
 close:∀ {T:Nat→Prop} {w:World} {cs:bv} {v:Value} {x:α},RN.rel T w cs (nf v x)→aE RI T w v (get x)→R.rel T w cs x
 gp:∀ l x,get (put l x)=l
 np:∀ v l x,nf v (put l x)=nf v x
section
variable {α ν β:Type} (N:QB α ν β)
variable {N}
variable {P:Program} {W:World} {M T E:Nat→Prop} {n:Nat} {G G':List (Nat×Value)} {D D' D0 Dr rs:List db} {F F':List cA} {a:Act} {w w':World} {K:Act→World→Prop}
theorem EN {γ:Type} {l:List γ} {i:Nat} {x y:γ} (h:y∈l.set i x):y=x∨∃ j,j≠i∧l[j]? = some y:=by
 obtain⟨j,hj⟩:=kg.1 h;rw [we] at hj;split at hj
 ·split at hj
  ·injection hj with hj; exact .inl hj.symm
  ·cases hj
 ·rename_i hne;exact .inr ⟨j,fun e=>hne e.symm,hj⟩
end
end
section
open Go.RowKit
section
variable {P:Program} {W:World} {M T E:Nat→Prop} {n:Nat} {G G':List (Nat×Value)} {D D' D0 Dr rs:List db} {F F':List cA} {a:Act} {w w':World} {K:Act→World→Prop}
end
end
section
open Go.RowKit
def Ls {κ ν:Type} (RK:aY κ) (ak:Bool) (RV:aY ν) (av:Bool) (T:Nat→Prop) (W w:World) (rs:List db) (b:Nat) (es:Array MapEntry) (ck:Nat) (xs:List (κ×ν)):Prop :=
 w.heap[b]? = some (.map es ck)∧W.heap.size≤b∧bV RK ak RV av (dT T rs) w es xs
theorem tU {W:World} {b:Nat} {o:Obj} (h:W.heap.size≤b):∀ k,db.dom (.obj b o) k→W.heap.size≤k:=fun k hk=>by
 simp only [db.dom,fg] at hk; omega
section
variable {κ ν:Type} {P:Program} {W:World} {M T E:Nat→Prop} {n:Nat} {G:List (Nat×Value)} {D rs:List db} {F:List cA} {a:Act} {w:World}
theorem St.retMap {RK:aY κ} {ak:Bool} {RV:aY ν} {av:Bool} {b ck:Nat} {es:Array MapEntry} {xs:List (κ×ν)} (h:St W No T n G D F a w) (hi:KJ D rs) (i:Nat) (hd:D[i]? = some (.obj b (.map es ck))) (j:Nat) (hj:F[j]? = some (pa RK ak RV av es xs)):Ls RK ak RV av T W w rs b es ck xs:=by
 have hm:=a6 hd;exact⟨h.own _ hm,(h.free _ hm b rfl).2.resolve_left fun h=>h,(h.get j hj:bV RK ak RV av (dT T D) w es xs).keep (au _ _) fun k hk=>.inl (hi.sub k hk)⟩
end
end
section
open Go.RowKit
variable {pos:String} {af:Array Edge} {g:Option (Nat×Bool)}
def HR {α:Type} (R:aY α):aY (bv ⊕ α) where
 size:=R.size
 rel:=fun T w cs y=>match y with
  | .inl c=>cs=c∧c.length=R.size∧∀ u∈c,u.oneCell'=true
  | .inr x=>R.rel T w cs x
 len:=fun {T w cs y} h=>by
  cases y with
  | inl c=>obtain⟨rfl,h,_⟩:=h; exact h
  | inr x=>exact R.len h
 one:=fun {T w cs y} h=>by
  cases y with
  | inl c=>obtain⟨rfl,_,h⟩:=h; exact h
  | inr x=>exact R.one h
 keep:=fun {T T' w w' cs y} h k n=>by
  cases y with
  | inl c=>exact h
  | inr x=>exact R.keep h k n
def fE {α:Type} (xs:List α) (i:Int) (cs:bv):List (bv ⊕ α):=(xs.map Sum.inr).set i.toNat (Sum.inl cs)
theorem w4 {α:Type} {xs:List α} {i:Int} {cs:bv}:(fE xs i cs).length=xs.length:=by unfold fE; simp
section
variable {α:Type} {R:aY α} {P:Program} {W:World} {M T E:Nat→Prop} {n:Nat} {G:List (Nat×Value)} {D rs:List db} {F:List cA} {a:Act} {w:World} {K:Act→World→Prop} {xs:List α} {i:Int} {x:α} {cs cl:bv}
theorem vq (h:bu xs i=some x) (cs:bv):bu (fE xs i cs) i=some (Sum.inl cs):=by
 obtain⟨q1,q2,q3⟩:=gK h;unfold bu fE;have:=(bN.1 q3).1;rw [if_pos q1,we,if_pos rfl,if_pos (by simpa using this)]
theorem HW (cs cs':bv):(fE xs i cs).set i.toNat (Sum.inl cs')=fE xs i cs':=by
 unfold fE; rw [List.set_set]
theorem II {T:Nat→Prop} (h:aA R T w cl xs):aA (HR R) T w cl (xs.map Sum.inr):=by
 refine⟨by rw [qR]; exact h.1,fun k y hy=>?_⟩;rw [uq] at hy;cases hx:xs[k]? with
 | none=>rw [hx] at hy; cases hy
 | some x =>
  rw [hx] at hy;obtain rfl:=fq hy;exact h.2 k x hx
theorem St.openH (hS:St W M T n G D F a w) (j:Nat) (hj:F[j]? = some (an R cl xs)):St W M T n G D (an (HR R) cl (xs.map Sum.inr)::F) a w:=hS.fact _ (II (hS.get j hj))
theorem ej {v:Value} {b o p:Nat} (hS:St W M T n G D F a w) (j:Nat) (hj:F[j]? = some (an (HR R) cl (fE xs i cs))) (ho:Jf v b o R.size i p) (hg:bu xs i=some x):∀ k u,cs[k]? = some u→cl[p+k]? = some u:=by
 obtain⟨off,m,c,rfl,rfl,rfl⟩:=ho;obtain⟨q1,q2,q3⟩:=gK (vq hg cs);obtain⟨c2,⟨rfl,_,_⟩,h2⟩:=(hS.get j hj:aA (HR R) (dT T D) w cl (fE xs i cs)).2 _ _ q3;exact h2
theorem Dt {T:Nat→Prop} (hS:aA (HR R) T w cl (fE xs i cs)) (hg:bu xs i=some x):(HR R).rel T w cs (Sum.inl cs):=by
 obtain⟨q1,q2,q3⟩:=gK (vq hg cs);obtain⟨c2,⟨rfl,h1,h2⟩,_⟩:=hS.2 _ _ q3;exact⟨rfl,h1,h2⟩
theorem St.closeH {x':α} (hS:St W M T n G D F a w) (j:Nat) (hj:F[j]? = some (an (HR R) cl (fE xs i cs))) (hr:R.rel (dT T D) w cs x'):St W M T n G D (an R cl (xs.set i.toNat x')::F) a w:=by
 have h:aA (HR R) (dT T D) w cl (fE xs i cs):=hS.get j hj;refine hS.fact _ ⟨by rw [Ef,← w4 (xs:=xs) (i:=i) (cs:=cs)]; exact h.1,fun k y hy=>?_⟩;rw [we] at hy;by_cases hk:i.toNat=k
 ·subst hk;rw [if_pos rfl] at hy;split at hy
  ·rename_i hl;obtain rfl:=fq hy;obtain⟨c2,⟨rfl,_,_⟩,h2⟩:=h.2 i.toNat (Sum.inl cs) (by unfold fE; rw [we,if_pos rfl,if_pos (by simpa using hl)]);exact⟨_,hr,h2⟩
  ·cases hy
 ·rw [if_neg hk] at hy;exact h.2 k (Sum.inr y) (by unfold fE; rw [we,if_neg hk,uq,hy]; rfl)
theorem H1 {t ty e:TypeId} {X Y:Operand} {ag:Bool} {z b o k p:Nat} {v u:Value} {us:bv} (hS:St W M T n G D F a w) (hX:ev G X=some (.pointer (some ⟨b,o+k,none⟩))) (hY:ev G Y=some u) (hu:u.cells.toList=us) (ht:n7 P t=some (ag,z)) (q:Nat) (hq:D[q]? = some (.own v e R.size cl)) (j:Nat) (hj:F[j]? = some (an (HR R) cl (fE xs i cs))) (ho:Jf v b o R.size i p) (hg:bu xs i=some x)
  (hz:us.length=z) (hl:Nat.ble (k+z) cs.length=true) (hone:∀ y∈mZ cs k us,y.oneCell'=true)
  (K':∀ cl' w',Kt (fun j=>v.ownBlock=some j) w w'→St W M T n G (D.set q (.own v e R.size cl')) (an (HR R) cl' (fE xs i (mZ cs k us))::F) a w'→K a w'):qT P ⟨none,.store t X Y,ty,pos,af,g⟩ a w K:=by
 have hr:(HR R).rel (dT T D) w cs (Sum.inl cs):=Dt (hS.get j hj) hg;have hlen:(mZ cs k us).length=R.size:=by
  have h1:=hr.2.1;have:=o4 hl;unfold mZ;simp only [cS,fe,sm];omega
 exact qe (R:=HR R) (xs:=fE xs i cs) (x:=Sum.inl cs) (x':=Sum.inl (mZ cs k us)) (k:=k) (cs:=cs) (us:=us) hS hX hY hu ht q hq j hj ho (ej hS j hj ho hg) (vq hg cs) hr hz hl ⟨rfl,hlen,hone⟩ fun cl' w' hk hS'=>K' cl' w' hk (by rw [HW] at hS'; exact hS')
end
end
section
open Go.RowKit
section
variable {κ β:Type} {P:Program} {W:World} {M T E:Nat→Prop} {n:Nat} {G G':List (Nat×Value)} {D D':List db} {F F':List cA} {a:Act} {w w':World} {K:Act→World→Prop}
variable {kt et:TypeId} {RK:aY κ} {ak:Bool} {RI:aY β} {e:TypeId} {q:κ→κ→Bool} {b ck:Nat} {es:Array MapEntry} {inn:List AY} {xs:List (κ×List β)}
end
end
section
open Go.RowKit
section
variable {κ ν:Type} {RK:aY κ} {ak:Bool} {RV:aY ν} {av:Bool}
end
section
variable {κ ν:Type} {P:Program} {W:World} {M T E:Nat→Prop} {n:Nat} {G G':List (Nat×Value)} {D D':List db} {F F':List cA} {a:Act} {w w':World} {K:Act→World→Prop}
variable {kt et:TypeId} {RK:aY κ} {ak:Bool} {RV:aY ν} {av:Bool} {q:κ→κ→Bool} {b clock:Nat} {es:Array MapEntry} {xs:List (κ×ν)}
end
end
section
open Go.RowKit
section
variable {P:Program} {ops:Array Oper} {Q:Exit→Act→World→Prop}
end
end
section
open Go.RowKit
theorem IN {α:Type} {xs:List α} {i:Int} {x:α} (h:bu xs i=some x):xs.set i.toNat x=xs:=by
 obtain⟨_,_,h3⟩:=gK h;obtain⟨h4,h5⟩:=bN.1 h3;rw [← h5]; exact List.set_getElem_self h4
end
section
open Go.RowKit
variable {pos:String} {af:Array Edge} {g:Option (Nat×Bool)}
structure i8 (es:Array MapEntry) (ck:Nat):Prop where
  lt:∀ (i:Nat) (m:MapEntry),es[i]? = some m→m.born<ck
  inj:∀ (i j:Nat) (m m':MapEntry),es[i]? = some m→es[j]? = some m'→m.born=m'.born→i=j
theorem i8.nil:i8 #[] 0:=⟨fun i m h=>by simp at h,fun i j m m' h=>by simp at h⟩
theorem i8.push {es:Array MapEntry} {ck:Nat} (h:i8 es ck) (k v:Value):i8 (es.push { key:=k,val:=v,born:=ck }) (ck+1):=by
  have old:∀ (z:Nat) (m:MapEntry),(es.push { key:=k,val:=v,born:=ck })[z]? = some m→(z<es.size∧es[z]? = some m)∨(z=es.size∧m={ key:=k,val:=v,born:=ck }):=by
    intro z m hz;rw [Array.getElem?_push] at hz;split at hz
    · rename_i h; injection hz with hz; exact .inr ⟨h,hz.symm⟩
    · exact .inl ⟨(si.1 hz).1,hz⟩
  refine⟨fun z m hz=>?_,fun z z' m m' hz hz' hb=>?_⟩
  · rcases old z m hz with⟨_,h2⟩|⟨rfl,rfl⟩
    · have:=h.lt z m h2; omega
    · exact Nat.lt_succ_self _
  · rcases old z m hz with⟨_,h2⟩|⟨rfl,rfl⟩ <;> rcases old z' m' hz' with⟨_,h2'⟩|⟨rfl,rfl⟩
    · exact h.inj z z' m m' h2 h2' hb
    · have:=h.lt z m h2; simp only at hb; omega
    · have:=h.lt z' m' h2'; simp only at hb; omega
    · rfl
theorem wz {es:Array MapEntry} {p:Nat} {f:MapEntry→MapEntry} {z:Nat} {m:MapEntry} (hz:(es.modify p f)[z]? = some m):∃ m0,es[z]? = some m0∧m=if p=z then f m0 else m0:=by
  rw [yO] at hz;split at hz
  · rename_i h;obtain⟨m0,h1,rfl⟩:=Ga.1 hz;exact⟨m0,h1,by rw [if_pos h]⟩
  · rename_i h; exact⟨m,hz,by rw [if_neg h]⟩
theorem i8.modify {es:Array MapEntry} {ck:Nat} (h:i8 es ck) (p:Nat) (f:MapEntry→MapEntry) (hf:∀ e,(f e).born=e.born):i8 (es.modify p f) ck:=by
  have old:∀ (z:Nat) (m:MapEntry),(es.modify p f)[z]? = some m→∃ m0,es[z]? = some m0∧m.born=m0.born:=by
    intro z m hz;obtain⟨m0,h1,rfl⟩:=wz hz;refine⟨m0,h1,?_⟩;split
    · exact hf m0
    · rfl
  refine⟨fun z m hz=>?_,fun z z' m m' hz hz' hb=>?_⟩
  · obtain⟨m0,h1,h2⟩:=old z m hz; rw [h2]; exact h.lt z m0 h1
  · obtain⟨m0,h1,h2⟩:=old z m hz;obtain⟨m1,h3,h4⟩:=old z' m' hz';exact h.inj z z' m0 m1 h1 h3 (by rw [← h2,← h4]; exact hb)
theorem i8.nodup {es:Array MapEntry} {ck:Nat} (h:i8 es ck):(es.toList.map (·.born)).Nodup:=by
  rw [List.nodup_iff_pairwise_ne,gG];intro i j hi hj hij e;simp only [List.getElem_map,Array.getElem_toList] at e;simp only [qR,Array.length_toList] at hi hj;have:=h.inj i j _ _ (n3 hi) (n3 hj) e;omega
theorem i8.find {es:Array MapEntry} {ck p:Nat} {m0:MapEntry} (h:i8 es ck) (hm0:es[p]? = some m0):es.findIdx? (fun m=>(m.born:Int)==(m0.born:Int))=some p:=by
  rw [Array.findIdx?_eq_some_iff_getElem];obtain⟨h1,h2⟩:=si.1 hm0;refine⟨h1,by simp [h2],fun z hz=>?_⟩;have hzl:z<es.size:=by omega
  intro h3;have h3:(es[z].born:Int)=(m0.born:Int):=by simpa using h3
  have:=h.inj z p _ _ (n3 hzl) hm0 (by omega);omega
def yz (es:Array MapEntry) (ck:Nat):cA:=⟨fun _ _=>i8 es ck,fun h _ _=>h⟩
def Nk {κ ν:Type} (RK:aY κ) (ak:Bool) (RV:aY ν) (av:Bool) (q:κ→κ→Bool) (es:Array MapEntry) (ck:Nat) (xs:List (κ×ν)) (key:κ) (s:Int):cA :=
  ⟨fun T w=>∃ (u:ν) (p:Nat) (m:MapEntry),bV RK ak RV av T w es (eH q key u xs)∧i8 es ck∧es[p]? = some m∧s=m.born∧∀ y,(eH q key u xs).set p (key,y)=eH q key y xs,
   fun h k n=>by obtain⟨u,p,m,h1,h2⟩:=h; exact⟨u,p,m,h1.keep k n,h2⟩⟩
section
variable {κ ν:Type} {P:Program} {W:World} {M T E:Nat→Prop} {n:Nat} {G G':List (Nat×Value)} {D D':List db} {F F':List cA} {a:Act} {w w':World} {K:Act→World→Prop}
variable {kt et:TypeId} {RK:aY κ} {ak:Bool} {RV:aY ν} {av:Bool} {q:κ→κ→Bool} {b clock:Nat} {es:Array MapEntry} {xs:List (κ×ν)}
theorem GN {t:TypeId} (ht:FN P t=some (kt,et)) (hK:xL P kt RK ak q) {T:Nat→Prop} {w w0:World} (hr:w.heap[b]? = some (.map es clock)) (hm:bV RK ak RV av T w0 es xs) (hB:i8 es clock) {c cv:bv} {key:κ} {val:ν} (hc:RK.rel T w0 c key) (hv:RV.rel T w0 cv val) :
    ∃ es' ck',(Instr.mapUpdate t (.map (some b)) (bp ak c) (bp av cv)).run P w = .ok () { w with heap:=w.heap.setIfInBounds b (.map es' ck') }∧bV RK ak RV av T w0 es' (eH q key val xs)∧i8 es' ck':=by
  obtain⟨hl,hkeys⟩:=vw hm;have hf:=rL hK hc w hl hkeys;have hch:=hK.check false _ _ w _ _ hc;cases hp:tT q key xs with
  | none =>
    obtain⟨_,g2,_⟩:=ru hp;rw [hp] at hf;refine⟨es.push { key:=bp ak c,val:=bp av cv,born:=clock },clock+1,?_,⟨by rw [g2]; simp [hm.1],fun z e x he hx=>?_⟩,hB.push _ _⟩
    · simp [Instr.mapUpdate,run_underlying (l9 ht),vI hr,hch,hf,y4,CK _ hr]
    · rw [g2] at hx;by_cases hz:z<xs.length
      · rw [m6 hz] at hx;rw [Array.getElem?_push_lt (by rw [hm.1]; exact hz)] at he;exact hm.2 z e x (by rw [← he]; exact (n3 _)) hx
      · rw [o5 (by omega)] at hx;obtain rfl:z=xs.length:=by
          rcases kP xs.length z with h | h
          · rw [tG (by simp; omega)] at hx; cases hx
          · omega
        simp at hx;subst hx;rw [← hm.1,Gb] at he;simp only [fg] at he;subst he;exact⟨⟨c,hc,rfl⟩,cv,hv,rfl⟩
  | some p =>
    obtain⟨x0,hx0,hq0,_,g2,_⟩:=rx hp;have hpi:p<es.size:=by rw [hm.1]; exact (bN.1 hx0).1
    have he0:es[p]? = some es[p]:=n3 hpi;obtain⟨⟨d0,hd0,hk0⟩,_⟩:=hm.2 p _ x0 he0 hx0;have hbits:=hK.bits _ _ _ _ _ _ _ _ hc hd0 hq0;rw [hp] at hf;refine⟨es.modify p fun e=>{ e with key:=bp ak c,val:=bp av cv },clock,?_,⟨by rw [g2]; simp [hm.1],fun z e x he hx=>?_⟩,hB.modify p _ fun _=>rfl⟩
    · have hat:y4 es.toList 0 (some p)=some (p,es[p].val):=by simp [y4,he0]
      rw [hat] at hf;have hkt:(Instr.keyThatStays (((es[p]?).map (·.key)).getD (bp ak c)) (bp ak c)).run P w = .ok (bp ak c) w:=by
        rw [he0];simp only [o7,B3,hk0,Instr.keyThatStays,hbits,if_true,Sem.run_pure]
      simp only [Instr.mapUpdate,Sem.run_bind,run_underlying (l9 ht),Result.andThen_ok,vI hr,hch,hf,hkt,CK _ hr]
    · rw [g2] at hx;by_cases hz:p=z
      · subst hz;rw [B0 (by rw [← hm.1]; exact hpi)] at hx;simp only [fg] at hx;subst hx;rw [yO,if_pos rfl,he0] at he;simp only [o7,fg] at he;subst he;exact⟨⟨c,hc,rfl⟩,cv,hv,rfl⟩
      · rw [List.getElem?_set_ne hz] at hx;rw [yO,if_neg hz] at he;exact hm.2 z e x he hx
theorem zY {d:Nat} {t ty:TypeId} (RK:aY κ) (ak:Bool) (RV:aY ν) (av:Bool) (hS:St W M T n G D F a w) (hn:Nat.blt d n=true)
    (k:∀ b,w.heap.size≤b→∀ a w',Kt No w w'→St W M T n ((d,.map (some b))::G) (.obj b (.map #[] 0)::D) (yz #[] 0::pa RK ak RV av #[] []::F) a w'→K a w'):qT P ⟨some d,.makeMap t none,ty,pos,af,g⟩ a w K :=
  qY RK ak RV av hS hn fun b hb a w' hk hS=>k b hb a w' hk (hS.fact _ i8.nil)
theorem Co {t ty:TypeId} {X Y Z:Operand} (hS:St W M T n G D F a w) (ht:FN P t=some (kt,et)) (hK:xL P kt RK ak q) (i:Nat) (hi:D[i]? = some (.obj b (.map es clock))) (j:Nat) (hj:F[j]? = some (pa RK ak RV av es xs)) (jb:Nat) (hb:F[jb]? = some (yz es clock))
    {c cv:bv} {key:κ} {val:ν} (hc:RK.rel (dT T D) w c key) (hv:RV.rel (dT T D) w cv val) (hX:ev G X=some (.map (some b))) (hY:ev G Y=some (bp ak c)) (hZ:ev G Z=some (bp av cv))
    (k:∀ es' ck' w',Kt (fun j=>j=b) w w'→St W M T n G (D.set i (.obj b (.map es' ck'))) (yz es' ck'::pa RK ak RV av es' (eH q key val xs)::F) a w'→K a w'):qT P ⟨none,.mapUpdate t X Y Z,ty,pos,af,g⟩ a w K:=by
  have hr:w.heap[b]? = some (.map es clock):=hS.own _ (a6 hi);obtain⟨es',ck',hrun,hok,hB⟩:=GN ht hK hr (hS.mapOk j hj) (hS.get jb hb) hc hv;refine DA (w':={ w with heap:=w.heap.setIfInBounds b (.map es' ck') }) (by simp [execOp,hS.ev hX,hS.ev hY,hS.ev hZ,hrun]) (k es' ck' _ ((pE hr).mono fun j hj=>(fq hj).symm) ?_);exact ((hS.fact (pa RK ak RV av es' _) hok).fact (yz es' ck') hB).turn hi (pE hr) (r':=.obj b (.map es' ck')) (qd hr).1 fun j hj=>.inl hj
theorem zX {t ty:TypeId} {X Y Z:Operand} (hS:St W M T n G D F a w) (ht:FN P t=some (kt,et)) (hK:xL P kt RK ak q) (i:Nat) (hi:D[i]? = some (.obj b (.map es clock))) (j:Nat) (hj:F[j]? = some (pa RK ak RV av es xs)) (jb:Nat) (hb:F[jb]? = some (yz es clock))
    {c cv:bv} {key:κ} {val:ν} (hc:RK.rel (dT T D) w c key) (hv:RV.rel (dT T D) w cv val) (hX:ev G X=some (.map (some b))) (hY:ev G Y=some (bp ak c)) (hZ:ev G Z=some (bp av cv))
    (k:∀ es' ck' w',Kt (fun j=>j=b) w w'→St W M T n G (D.set i (.obj b (.map es' ck'))) (yz es' ck'::pa RK ak RV av es' (eH q key val xs)::F) a w'→K a w'):qT P ⟨none,.insert t X Y Z,ty,pos,af,g⟩ a w K :=
  Co (ty:=ty) (pos:=pos) (af:=af) (g:=g) hS ht hK i hi j hj jb hb hc hv hX hY hZ k
theorem GK {d:Nat} {t ty:TypeId} {X Y:Operand} (hS:St W M T n G D F a w) (hd:Nat.blt d n=true) (ht:FN P t=some (kt,et)) (hK:xL P kt RK ak q) (i:Nat) (hi:D[i]? = some (.obj b (.map es clock))) (j:Nat) (hj:F[j]? = some (pa RK ak RV av es xs)) (jb:Nat) (hb:F[jb]? = some (yz es clock))
    {c:bv} {key:κ} (hc:RK.rel (dT T D) w c key) {z:Value} {zc:bv} {z0:ν} (hz:Lr P et=some z) (hzc:z=bp av zc) (hz0:RV.rel (dT T D) w zc z0) (hX:ev G X=some (.map (some b))) (hY:ev G Y=some (bp ak c))
    (k:∀ v es' ck' (s:Int) a w',Kt (fun j=>j=b) w w'→St W M T n ((d,.tuple #[v,.int .i64 s])::G) (D.set i (.obj b (.map es' ck'))) (Nk RK ak RV av q es' ck' xs key s::F) a w'→K a w'):qT P ⟨some d,.mapEntry t X Y,ty,pos,af,g⟩ a w K:=by
  have hr:w.heap[b]? = some (.map es clock):=hS.own _ (a6 hi);have hm:=hS.mapOk j hj;have hB:i8 es clock:=hS.get jb hb;obtain⟨hl,hkeys⟩:=vw hm;have hf:=rL hK hc w hl hkeys;have hch:=hK.check false _ _ w _ _ hc;have hzr:=CZ (P:=P) hz w;cases hp:tT q key xs with
  | none =>
    obtain⟨_,g2,_⟩:=ru hp;rw [hp] at hf;have hrun:(execOp a.eval ⟨some d,.mapEntry t X Y,ty,pos,af,g⟩).run P w = .ok (.value (.tuple #[z,.int .i64 clock])) { w with heap:=w.heap.setIfInBounds b (.map (es.push { key:=bp ak c,val:=z,born:=clock }) (clock+1)) }:=by
      simp [execOp,hS.ev hX,hS.ev hY,Instr.mapEntry,run_underlying (l9 ht),vI hr,hch,hf,y4,CK _ hr,hzr,goInt]
    refine ux hrun (k z (es.push { key:=bp ak c,val:=z,born:=clock }) (clock+1) clock _ _ ((pE hr).mono fun j hj=>(fq hj).symm) ?_);refine St.put ?_ hd _;refine (hS.fact (Nk RK ak RV av q _ (clock+1) xs key clock) ?_).turn hi (pE hr) (r':=.obj b (.map (es.push { key:=bp ak c,val:=z,born:=clock }) (clock+1))) (qd hr).1 fun j hj=>.inl hj;refine⟨z0,xs.length,{ key:=bp ak c,val:=z,born:=clock },⟨by rw [g2]; simp [hm.1],fun y e x he hx=>?_⟩,hB.push _ _,by rw [← hm.1,Gb],rfl,fun y=>by rw [g2,g2,List.set_append_right _ _ (cX _)]; simp⟩;rw [g2] at hx;by_cases hz:y<xs.length
    · rw [m6 hz] at hx;rw [Array.getElem?_push_lt (by rw [hm.1]; exact hz)] at he;exact hm.2 y e x (by rw [← he]; exact (n3 _)) hx
    · rw [o5 (by omega)] at hx;obtain rfl:y=xs.length:=by
        rcases kP xs.length y with h | h
        · rw [tG (by simp; omega)] at hx; cases hx
        · omega
      simp at hx;subst hx;rw [← hm.1,Gb] at he;simp only [fg] at he;subst he;exact⟨⟨c,hc,rfl⟩,zc,hz0,hzc⟩
  | some p =>
    obtain⟨x0,hx0,hq0,_,g2,_⟩:=rx hp;have hpi:p<es.size:=by rw [hm.1]; exact (bN.1 hx0).1
    have hpx:p<xs.length:=(bN.1 hx0).1;have he0:es[p]? = some es[p]:=n3 hpi;obtain⟨⟨d0,hd0,hk0⟩,cv0,hcv0,hv0⟩:=hm.2 p _ x0 he0 hx0;have hbits:=hK.bits _ _ _ _ _ _ _ _ hc hd0 hq0;rw [hp] at hf;have hat:y4 es.toList 0 (some p)=some (p,es[p].val):=by simp [y4,he0]
    rw [hat] at hf;have hkt:(Instr.keyThatStays es[p].key (bp ak c)).run P w = .ok (bp ak c) w:=by
      simp only [hk0,Instr.keyThatStays,hbits,if_true,Sem.run_pure]
    have hrun:(execOp a.eval ⟨some d,.mapEntry t X Y,ty,pos,af,g⟩).run P w = .ok (.value (.tuple #[es[p].val,.int .i64 es[p].born])) { w with heap:=w.heap.setIfInBounds b (.map (es.modify p fun m=>{ m with key:=bp ak c }) clock) }:=by
      have h5:(Instr.mapEntry t (.map (some b)) (bp ak c)).run P w = .ok (.tuple #[es[p].val,.int .i64 es[p].born]) { w with heap:=w.heap.setIfInBounds b (.map (es.modify p fun m=>{ m with key:=bp ak c }) clock) }:=by
        simp only [Instr.mapEntry,Sem.run_bind,run_underlying (l9 ht),Result.andThen_ok,vI hr,hch,hf,hkt,CK _ hr,Sem.run_pure,goInt,he0,o7,B3]
      simp only [execOp,hS.ev hX,hS.ev hY,Sem.run_bind,h5,Result.andThen_ok,Sem.run_pure]
    refine ux hrun (k es[p].val (es.modify p fun m=>{ m with key:=bp ak c }) clock es[p].born _ _ ((pE hr).mono fun j hj=>(fq hj).symm) ?_);refine St.put ?_ hd _;refine (hS.fact (Nk RK ak RV av q _ clock xs key es[p].born) ?_).turn hi (pE hr) (r':=.obj b (.map (es.modify p fun m=>{ m with key:=bp ak c }) clock)) (qd hr).1 fun j hj=>.inl hj;refine⟨x0.2,p,{ es[p] with key:=bp ak c },⟨by rw [g2]; simp [hm.1],fun y e x he hx=>?_⟩,hB.modify p _ fun _=>rfl,by rw [yO,if_pos rfl,he0]; rfl,rfl,fun y=>by rw [g2,g2,List.set_set]⟩;obtain⟨m0,h1,h2⟩:=wz he;rw [g2,we] at hx;by_cases hz:p=y
    · subst hz;rw [if_pos rfl,if_pos hpx] at hx;simp only [fg] at hx;subst hx;rw [if_pos rfl] at h2;rw [he0] at h1;obtain rfl:=fq h1;subst h2;exact⟨⟨c,hc,rfl⟩,cv0,hcv0,hv0⟩
    · rw [if_neg hz] at hx h2;subst h2;exact hm.2 y _ x h1 hx
theorem GL {t ty:TypeId} {X Y Z:Operand} {key:κ} {s:Int} {cv:bv} {val:ν} (hS:St W M T n G D F a w) (i:Nat) (hi:D[i]? = some (.obj b (.map es clock))) (j:Nat) (hj:F[j]? = some (Nk RK ak RV av q es clock xs key s)) (hv:RV.rel (dT T D) w cv val) (hX:ev G X=some (.map (some b))) (hY:ev G Y=some (.int .i64 s)) (hZ:ev G Z=some (bp av cv))
    (k:∀ es' w',Kt (fun j=>j=b) w w'→St W M T n G (D.set i (.obj b (.map es' clock))) (yz es' clock::pa RK ak RV av es' (eH q key val xs)::F) a w'→K a w'):qT P ⟨none,.entryStore t X Y Z,ty,pos,af,g⟩ a w K:=by
  have hr:w.heap[b]? = some (.map es clock):=hS.own _ (a6 hi);obtain⟨u,p,m0,hm,hB,hm0,rfl,hset'⟩:(Nk RK ak RV av q es clock xs key s).p (dT T D) w:=hS.get j hj;have hfi:=hB.find hm0;have hrun:(execOp a.eval ⟨none,.entryStore t X Y Z,ty,pos,af,g⟩).run P w = .ok .skip { w with heap:=w.heap.setIfInBounds b (.map (es.modify p fun m=>{ m with val:=bp av cv }) clock) }:=by
    have h5:(Instr.entryStore t (.map (some b)) (.int .i64 (m0.born:Int)) (bp av cv)).run P w = .ok () { w with heap:=w.heap.setIfInBounds b (.map (es.modify p fun m=>{ m with val:=bp av cv }) clock) }:=by
      simp only [Instr.entryStore,Sem.run_bind,vI hr,Result.andThen_ok,asInt,asIntOf,Sem.run_pure,hfi,CK _ hr]
    simp only [execOp,hS.ev hX,hS.ev hY,hS.ev hZ,Sem.run_bind,h5,Result.andThen_ok,Sem.run_pure]
  refine DA hrun (k (es.modify p fun m=>{ m with val:=bp av cv }) _ ((pE hr).mono fun j hj=>(fq hj).symm) ?_);refine ((hS.fact (pa RK ak RV av (es.modify p fun m=>{ m with val:=bp av cv }) (eH q key val xs)) ?_).fact (yz (es.modify p fun m=>{ m with val:=bp av cv }) clock) (hB.modify p _ fun _=>rfl)).turn hi (pE hr) (r':=.obj b (.map (es.modify p fun m=>{ m with val:=bp av cv }) clock)) (qd hr).1 fun j hj=>.inl hj;rw [← hset' val];refine⟨by simp [hm.1],fun y e x he hx=>?_⟩;obtain⟨m1,h1,h2⟩:=wz he;rw [we] at hx;by_cases hz:p=y
  · subst hz;have hpx:p<(eH q key u xs).length:=by rw [← hm.1]; exact (si.1 h1).1
    rw [if_pos rfl,if_pos hpx] at hx;simp only [fg] at hx;subst hx;rw [if_pos rfl] at h2;subst h2;obtain⟨⟨d,hd,hk⟩,_⟩:=hm.2 p m1 _ h1 (bS hpx);have hkk:(eH q key u xs)[p].1=key:=by
      have h6:=hset' u;have h7:=congrArg (fun l=>l[p]?) h6;simp only [we,if_true,hpx,bS hpx,fg] at h7;rw [← h7]
    exact⟨⟨d,by rw [hkk] at hd; exact hd,hk⟩,cv,hv,rfl⟩
  · rw [if_neg hz] at hx h2;subst h2;exact hm.2 y _ x h1 hx
end
end
section
open Go.RowKit
variable {pos:String} {af:Array Edge} {g:Option (Nat×Bool)}
def qU {κ ν S:Type} (B:S→κ→ν→Option S):S→List (κ×ν)→Option S
 | s,[]=>some s
 | s,x::l=>(B s x.1 x.2).bind fun s'=>qU B s' l
open Classical in
noncomputable def wB {κ ν S:Type} (B:S→κ→ν→Option S) (xs:List (κ×ν)) (s0:S):Option S :=
 if h:∃ y,∀ p:List (κ×ν),p.Perm xs→qU B s0 p=some y then some h.choose else none
theorem ES {κ ν S:Type} {B:S→κ→ν→Option S} {xs:List (κ×ν)} {s0 y:S} (h:wB B xs s0=some y):∀ p:List (κ×ν),p.Perm xs→qU B s0 p=some y:=by
 unfold wB at h;split at h
 ·rename_i hx;obtain rfl:=fq h;exact hx.choose_spec
 ·cases h
theorem BJ {κ ν S:Type} {B:S→κ→ν→Option S} {xs:List (κ×ν)} {s0 y:S} (h:∀ p:List (κ×ν),p.Perm xs→qU B s0 p=some y):wB B xs s0=some y:=by
 have hx:∃ y,∀ p:List (κ×ν),p.Perm xs→qU B s0 p=some y:=⟨y,h⟩;unfold wB;rw [dif_pos hx];have h1:=hx.choose_spec xs (List.Perm.refl _);rw [h xs (List.Perm.refl _)] at h1;exact h1.symm
theorem GE {κ ν S:Type} {B:S→κ→ν→Option S} {rest rest':List (κ×ν)} {k:κ} {v:ν} {s y:S} (hp:rest.Perm ((k,v)::rest')) (h:∀ p:List (κ×ν),p.Perm rest→qU B s p=some y) :
  ∃ s',B s k v=some s'∧∀ p:List (κ×ν),p.Perm rest'→qU B s' p=some y:=by
 have h1:=h ((k,v)::rest') hp.symm;rw [qU] at h1;cases hb:B s k v with
 | none=>rw [hb] at h1; cases h1
 | some s' =>
  refine⟨s',rfl,fun p hp'=>?_⟩;have h2:=h ((k,v)::p) ((List.Perm.cons (k,v) hp').trans hp.symm);rw [qU,hb] at h2;exact h2
theorem Kq {κ ν S:Type} {B:S→κ→ν→Option S} {rest:List (κ×ν)} {s y:S} (h0:rest=[]) (h:∀ p:List (κ×ν),p.Perm rest→qU B s p=some y):s=y:=by
 subst h0;exact fq (h [] (List.Perm.refl _))
theorem CI {α:Type} {rest rest':List α} {x:α} (hp:rest.Perm (x::rest')):rest'.length<rest.length:=by
 rw [hp.length_eq]; exact Nat.lt_succ_self _
section
variable {P:Program} {a:Act} {w:World} {Q:Exit→Act→World→Prop}
theorem M7 {κ ν S:Type} {c:Code} (B:S→κ→ν→Option S) (I:S→List (κ×ν)→Act→World→Prop) {s0 y:S} {xs:List (κ×ν)} (hl:∀ p:List (κ×ν),p.Perm xs→qU B s0 p=some y) (h0:I s0 xs a w)
  (round:∀ s rest a w,I s rest a w→(∀ p:List (κ×ν),p.Perm rest→qU B s p=some y)→c.wp P (Exit.then (fun a' w'=>∃ s' rest',rest'.length<rest.length∧(∀ p:List (κ×ν),p.Perm rest'→qU B s' p=some y)∧I s' rest' a' w') Q) a w):(Code.loop c).wp P Q a w:=by
 intro b k cs;have key:∀ N s rest a w,rest.length<N→(∀ p:List (κ×ν),p.Perm rest→qU B s p=some y)→I s rest a w→∃ e a' w',Q e a' w'∧Arrives P (lone (b.at a (.code c :: .inLoop c::k)) cs w) b k cs e a' w':=by
  intro N
  induction N with
  | zero=>intro s rest a w h; omega
  | succ N ih =>
   intro s rest a w h hs hI;obtain⟨e,a₁,w₁,hq,harr⟩:=round s rest a w hI hs b (.inLoop c::k) cs;cases e with
   | normal =>
    obtain⟨s',rest',h1,h2,h3⟩:=hq;obtain⟨e₂,a₂,w₂,hq₂,harr₂⟩:=ih s' rest' a₁ w₁ (by omega) h2 h3;exact⟨e₂,a₂,w₂,hq₂,.of_steps (Steps.trans harr (.one step_inLoop)) harr₂⟩
   | exit id=>exact⟨_,a₁,w₁,hq,.pass (x:=.inLoop c) rfl (fun _ _=>.inl (by simp)) harr⟩
   | goto l=>exact⟨_,a₁,w₁,hq,.pass (x:=.inLoop c) rfl (fun _ _=>.inl (by simp)) harr⟩
   | ret=>exact⟨_,a₁,w₁,hq,.pass (x:=.inLoop c) rfl (fun _ _=>.inl (by simp)) harr⟩
   | panic ch=>exact⟨_,a₁,w₁,hq,.pass (x:=.inLoop c) rfl (fun _ _=>.inl (by simp)) harr⟩
   | outgrown=>exact⟨_,a₁,w₁,hq,.pass (x:=.inLoop c) rfl (fun _ _=>.inl (by simp)) harr⟩
 obtain⟨e,a',w',hq,harr⟩:=key (xs.length+1) s0 xs a w (by omega) hl h0;exact⟨e,a',w',hq,.of_steps (.one step_loop) harr⟩
theorem IZ {x:Code} (J:Act→World→Prop) (h1:x.wp P (Exit.then J Q) a w) (h2:∀ a w,J a w→Q .normal a w):x.wp P Q a w :=
 wp_mono h1 fun e a w h=>by cases e <;> first | exact h2 a w h | exact h
theorem L8 {fn:Func} {R:Ending→World→Prop} (h:bodyPost P fn R .ret a w):bodyPost P fn R .normal a w:=h
end
def se {κ ν:Type} (es:Array MapEntry) (seen:Array Nat) (xs:List (κ×ν)):List (κ×ν):=((es.toList.zip xs).filter fun p=>!seen.contains p.1.born).map (·.2)
theorem EV {κ ν:Type} {es:Array MapEntry} {xs:List (κ×ν)} (h:es.size=xs.length):se es #[] xs=xs:=by
 unfold se;rw [tb.2 (fun p _=>by simp)];exact List.map_snd_zip (by simp [h])
theorem yG {α:Type} {P P':α→Bool}:∀ (Z:List α) (i:Nat) (p:α),Z[i]? = some p→P p=true→P' p=false→(∀ j q,Z[j]? = some q→j≠i→P' q=P q)→(Z.filter P).Perm (p::Z.filter P')
 | [],i,p,h,_,_,_=>by simp at h
 | z::Z,0,p,h,h1,h2,h3=>by
  simp only [Ea,fg] at h;subst h;rw [oX h1,jV (by rw [h2]; simp)];have:Z.filter P'=Z.filter P:=List.filter_congr fun q hq=>by
   obtain⟨j,hj⟩:=kg.1 hq;exact h3 (j+1) q (by simpa using hj) (by omega)
  rw [this]
 | z::Z,i+1,p,h,h1,h2,h3=>by
  have ih:=yG Z i p (by simpa using h) h1 h2 fun j q hj hn=>h3 (j+1) q (by simpa using hj) (by omega);have hz:=h3 0 z rfl (by omega);cases hp:P z with
  | true =>
   rw [oX hp,oX (by rw [hz]; exact hp)];exact (List.Perm.cons z ih).trans (List.Perm.swap p z _)
  | false =>
   rw [jV (by rw [hp]; simp),jV (by rw [hz,hp]; simp)];exact ih
def Jj (es:Array MapEntry) (seen:Array Nat) (kv vv:Value):cA:=⟨fun _ _=>∃ (s0:Array Nat) (e:MapEntry),seen=Array.push s0 e.born∧e∈es.toList∧e.key=kv∧e.val=vv,fun h _ _=>h⟩
section
variable {κ ν:Type} {P:Program} {W:World} {M T E:Nat→Prop} {n:Nat} {G G':List (Nat×Value)} {D D':List db} {F F':List cA} {a:Act} {w w':World} {K:Act→World→Prop}
variable {kt et:TypeId} {RK:aY κ} {ak:Bool} {RV:aY ν} {av:Bool} {q:κ→κ→Bool} {b r ck:Nat} {es:Array MapEntry} {seen:Array Nat} {xs:List (κ×ν)}
theorem GV (h:(leftOf es seen).size=0):se es seen xs=[]:=by
 unfold se;rw [List.map_eq_nil_iff,yq];rintro⟨e,x⟩ hp hn;have he:=(List.of_mem_zip hp).1;have:e∈(leftOf es seen).toList:=by
  unfold leftOf;simp only [Array.toList_filter,iZ];exact⟨he,hn⟩
 have h2:(leftOf es seen).toList=[]:=yN (by simpa using h);rw [h2] at this;cases this
theorem GW {T:Nat→Prop} {w:World} {e:MapEntry} (hm:es.size=xs.length) (hB:i8 es ck) (he:e∈(leftOf es seen).toList) :
  ∃ (i:Nat) (x:κ×ν),es[i]? = some e∧xs[i]? = some x∧(se es seen xs).Perm (x::se es (seen.push e.born) xs):=by
 unfold leftOf at he;simp only [Array.toList_filter,iZ] at he;obtain⟨he,hn⟩:=he;obtain⟨i,hi⟩:=kg.1 he;have hil:i<xs.length:=by rw [← hm]; have:=(bN.1 hi).1; simpa using this
 have hx:xs[i]? = some xs[i]:=bS hil;refine⟨i,xs[i],by rw [← xH]; exact hi,hx,?_⟩;have hz:(es.toList.zip xs)[i]? = some (e,xs[i]):=by rw [List.getElem?_zip_eq_some]; exact⟨hi,hx⟩
 have h1:=yG (P:=fun p:MapEntry×(κ×ν)=>!seen.contains p.1.born) (P':=fun p=>!(seen.push e.born).contains p.1.born) (es.toList.zip xs) i (e,xs[i]) hz hn (by simp) (fun j p hj hji=>by
  rw [List.getElem?_zip_eq_some] at hj;have hne:p.1.born≠e.born:=fun hb=>hji (hB.inj j i p.1 e (by rw [← xH]; exact hj.1) (by rw [← xH]; exact hi) hb);simp [hne])
 unfold se;exact h1.map (fun p:MapEntry×(κ×ν)=>p.2)
theorem Ke {d:Nat} {t ty:TypeId} {X:Operand} (hS:St W M T n G D F a w) (hn:Nat.blt d n=true) (ht:FN P t=some (kt,et)) (i:Nat) (hi:D[i]? = some (.obj b (.map es ck))) (hX:ev G X=some (.map (some b)))
  (k:∀ r,w.heap.size≤r→∀ a w',Kt No w w'→St W M T n ((d,.pointer (some ⟨r,0,none⟩))::G) (.obj r (.mapIter (some b) ck #[] ck)::D) F a w'→K a w'):qT P ⟨some d,.range t X,ty,pos,af,g⟩ a w K:=by
 have hb:w.heap[b]? = some (.map es ck):=hS.own _ (a6 hi);have hr:(execOp a.eval ⟨some d,.range t X,ty,pos,af,g⟩).run P w = .ok (.value (.pointer (some ⟨w.heap.size,0,none⟩))) (w.alloc (.mapIter (some b) ck #[] ck)):=by
  simp [execOp,hS.ev hX,Instr.range,run_underlying (l9 ht),vI hb]
 refine ux hr (k w.heap.size (cX _) _ _ (Kt.alloc _ _) ?_);exact (hS.add (Kt.alloc _ _) (.obj w.heap.size (.mapIter (some b) ck #[] ck)) (heap_alloc_new w _) (fun k hk=>by simp only [db.dom,fg] at hk; omega)).put hn _
theorem MM {d:Nat} {ty:TypeId} {X:Operand} (hS:St W M T n G D F a w) (hn:Nat.blt d n=true) (hX:ev G X=some (.pointer (some ⟨r,0,none⟩))) (i:Nat) (hi:D[i]? = some (.obj b (.map es ck))) (m:Nat) (hm:D[m]? = some (.obj r (.mapIter (some b) ck seen ck))) (him:i≠m) (j:Nat) (hj:F[j]? = some (pa RK ak RV av es xs)) (jb:Nat) (hjb:F[jb]? = some (yz es ck))
  (k0:se es seen xs=[]→∀ a,St W M T n ((d,.tuple #[.bool false])::G) D F a w→K a w)
  (k1:∀ (kx:κ) (vx:ν) (kc vc:bv) (seen':Array Nat) a w',Kt (fun j=>j=r) w w'→RK.rel (dT T (D.set m (.obj r (.mapIter (some b) ck seen' ck)))) w' kc kx→RV.rel (dT T (D.set m (.obj r (.mapIter (some b) ck seen' ck)))) w' vc vx→(se es seen xs).Perm ((kx,vx)::se es seen' xs)→St W M T n ((d,.tuple #[.bool true,bp ak kc,bp av vc])::G) (D.set m (.obj r (.mapIter (some b) ck seen' ck))) (Jj es seen' (bp ak kc) (bp av vc)::F) a w'→K a w'):qT P ⟨some d,.next X false,ty,pos,af,g⟩ a w K:=by
 have hb:w.heap[b]? = some (.map es ck):=hS.own _ (a6 hi);have hr:w.heap[r]? = some (.mapIter (some b) ck seen ck):=hS.own _ (a6 hm);have hB:i8 es ck:=hS.get jb hjb;have hold:∀ x∈es.toList,x.born<ck:=fun x hx=>by
  obtain⟨z,hz⟩:=kg.1 hx;exact hB.lt z x (by rw [← xH]; exact hz)
 rcases run_next_at (P:=P) w ty r b ck ck seen es ck hr hb hold (cX _) with⟨h0,hrun⟩|⟨e,he,w1,hw1,hrun⟩
 ·exact ux (w':=w) (by simp [execOp,hS.ev hX,hrun]) (k0 (GV h0) _ (hS.put hn _))
 ·obtain⟨z,x,h1,h2,h3⟩:=GW (T:=T) (w:=w) (hS.mapOk j hj).1 hB he;have hS1:St W M T n G D F a w1:=by
   rcases hw1 with rfl | rfl
   ·exact hS
   ·exact hS.later (Kt.drew w)
  have hr1:w1.heap[r]? = some (.mapIter (some b) ck seen ck):=hS1.own _ (a6 hm);have hk1:Kt (fun j=>some r=some j) w1 (Go.ChangeMaps.setBlock w1 r (.mapIter (some b) ck (seen.push e.born) ck)):=pE hr1;have hk:Kt (fun j=>j=r) w (Go.ChangeMaps.setBlock w1 r (.mapIter (some b) ck (seen.push e.born) ck)):=by
   have h5:Kt (fun j=>j=r) w w1:=by
    rcases hw1 with rfl | rfl
    ·exact au _ _
    ·exact (Kt.drew w).no
   exact h5.trans (hk1.mono fun j hj=>(fq hj).symm)
  have hS2:=hS1.turn hm hk1 (r':=.obj r (.mapIter (some b) ck (seen.push e.born) ck)) (qd hr1).1 fun j hj=>.inl hj;obtain⟨⟨kc,q1,q2⟩,vc,q3,q4⟩:=(hS2.mapOk j hj).2 z e x h1 h2;refine ux (v:=.tuple #[.bool true,bp ak kc,bp av vc]) (w':=Go.ChangeMaps.setBlock w1 r (.mapIter (some b) ck (seen.push e.born) ck)) (by rw [← q2,← q4]; simp [execOp,hS.ev hX,hrun]) (k1 x.1 x.2 kc vc (seen.push e.born) _ _ hk q1 q3 h3 ?_);exact (hS2.fact (Jj es (seen.push e.born) (bp ak kc) (bp av vc)) ⟨seen,e,rfl,a6 (by rw [xH]; exact h1),q2,q4⟩).put hn _
theorem KB {d:Option Nat} {ty:TypeId} {X:Operand} {kv vv:Value} (hS:St W M T n G D F a w) (hX:ev G X=some (.pointer (some ⟨r,0,none⟩))) (i:Nat) (hi:D[i]? = some (.obj b (.map es ck))) (m:Nat) (hm:D[m]? = some (.obj r (.mapIter (some b) ck seen ck))) (jb:Nat) (hjb:F[jb]? = some (yz es ck)) (jc:Nat) (hjc:F[jc]? = some (Jj es seen kv vv)) :
  Ye P ⟨d,.entry X,ty,pos,af,g⟩ a No w (.tuple #[kv,vv]):=fun w' hk=>by
 have hb:w.heap[b]? = some (.map es ck):=hS.own _ (a6 hi);have hr:w.heap[r]? = some (.mapIter (some b) ck seen ck):=hS.own _ (a6 hm);have hb':=(hk.block b (si.1 hb).1 (fun h=>h)).trans hb;have hr':=(hk.block r (si.1 hr).1 (fun h=>h)).trans hr;have hB:i8 es ck:=hS.get jb hjb;obtain⟨s0,e,rfl,he,rfl,rfl⟩:(Jj es seen kv vv).p (dT T D) w:=hS.get jc hjc;simp [execOp,hS.ev hX,run_entry_at (P:=P) w' r b ck s0 es ck e hr' hb' he hB.nodup]
end
end
section
open Go.RowKit
section
variable {P:Program} {W:World} {M T:Nat→Prop} {n d j t:Nat} {G:List (Nat×Value)} {D:List db} {F:List cA} {a:Act} {w:World} {ops:Array Oper} {Q:Exit→Act→World→Prop} {rest:List Oper} {o:Oper} {v:Value} {x y:Operand} {ty tt t':TypeId} {pos:String} {af:Array Edge} {want c:Bool} {id:Nat} {l:List Oper} {z:Code}
theorem qy (hS:St W M T n G D F a w) (h:Ye P o a No w v) (k:∀ a,St W M T n ((d,v)::G) D F a w→wpList P ops Q rest a w) (hg:o.guard=none:=by rfl) (hd:o.dst=some d:=by rfl) (hn:Nat.blt d n=true:=by rfl):wpList P ops Q (o::rest) a w:=wy hS h hg hd hn k
theorem qg (hS:St W M T n G D F a w) (hc:c=want) (h:Ye P o a No w v) (k:∀ a,St W M T n ((d,v)::G) D F a w→wpList P ops Q rest a w) (hg:o.guard=some (j,want):=by rfl) (hj:(ops[j]?).bind (·.dst)=some t:=by rfl) (ht:lk G t=some (.bool c):=by rfl) (hd:o.dst=some d:=by rfl) (hn:Nat.blt d n=true:=by rfl):wpList P ops Q (o::rest) a w:=wg hS hg hj ht hc (ky hS h hd hn k)
theorem qm (hS:St W M T n G D F a w) (k:∀ a,St W M T n ((d,v)::G) D F a w→wpList P ops Q rest a w) (hx:ev G x=some v:=by rfl) (hn:Nat.blt d n=true:=by rfl):wpList P ops Q (⟨some d,.move x,ty,pos,af,none⟩::rest) a w:=wy hS (Ja hS hx) rfl rfl hn k
theorem qa (hS:St W M T n G D F a w) (k:∀ a,St W M T n ((d,v)::G) D F a w→wpList P ops Q rest a w) (hx:ev G x=some v:=by rfl) (hn:Nat.blt d n=true:=by rfl):wpList P ops Q (⟨some d,.assign x,ty,pos,af,none⟩::rest) a w:=wy hS (D7 hS hx) rfl rfl hn k
theorem rq (h:∀ K:Act→World→Prop,(∀ a w,z.wp P Q a w→K a w)→wpList P l.toArray (Exit.then K Q) l a w):(Code.seq (Code.region id l.toArray false) z).wp P Q a w:=wp_seq_k fun K hK=>ER (h K hK)
theorem rz (h:Q .normal a w):wpList P ops Q [] a w:=wpList_nil h
end
end
section
open Go.RowKit
variable {pos:String} {af:Array Edge} {g:Option (Nat×Bool)}
section
variable {α:Type} {R:aY α} {P:Program} {W:World} {M T E:Nat→Prop} {n:Nat} {G:List (Nat×Value)} {D rs:List db} {F:List cA} {a:Act} {w:World} {K:Act→World→Prop} {xs ys:List α} {i:Int} {x:α} {cs cl:bv}
theorem I7 {d:Option Nat} {X:Operand} {t e e':TypeId} {ty:TypeId} {v:Value} (hS:St W M T n G D F a w) (ht:lm P t=some e) (hx:ev G X=some v) (j:Nat) (hj:D[j]? = some (.own v e' R.size cl)) (p:Nat) (hp:F[p]? = some (an (HR R) cl (fE xs i cs))):Ye P ⟨d,.call { callee:=.builtin .len,args:=#[X],argTypes:=#[t] },ty,pos,af,g⟩ a E w (.int .i64 xs.length):=by
 have h:=I8 (R:=HR R) (xs:=fE xs i cs) (d:=d) (ty:=ty) (pos:=pos) (af:=af) (g:=g) (E:=E) hS ht hx j hj p hp;rw [w4] at h;exact h
theorem JM {e e' t:TypeId} {v:Value} {lo hi:Int} {ag:Bool} (hS:St W M T n G D F a w) (ht:lm P t=some e) (he:n7 P e=some (ag,R.size)) (q:Nat) (hq:D[q]? = some (.own v e' R.size cl)) (j:Nat) (hj:F[j]? = some (an (HR R) cl (fE xs i cs))) (hg:o0 xs lo hi=some ys) :
  ∃ v',(∀ (T:Nat→Prop) (w:World),aE R T w v xs→aE R T w v' ys)∧(∀ {E:Nat→Prop} {d:Option Nat} {ty:TypeId} {X:Operand} {olo ohi:Option Operand} {pos:String} {af:Array Edge} {g:Option (Nat×Bool)} {k1 k2:IntKind},ev G X=some v→((∃ x,olo=some x∧ev G x=some (.int k1 lo))∨(olo=none∧lo=0))→((∃ x,ohi=some x∧ev G x=some (.int k2 hi))∨(ohi=none∧hi=xs.length))→Ye P ⟨d,.slice t X olo ohi none,ty,pos,af,g⟩ a E w v'):=by
 obtain⟨q1,q2,q3,rfl⟩:=rA hg;obtain⟨A,c,hv,h1,h2,hS'⟩:=Kv (R:=HR R) (xs:=fE xs i cs) (lo:=lo.toNat) (hi:=hi.toNat) hS q hq j hj (by omega) (by rw [w4]; omega);rw [w4] at hv h1;refine⟨_,fun T w h=>?_,fun hX hlo hhi=>KF hS ht he q1 q2 q3 h1 hv hX hlo hhi⟩;subst hv;refine h.cut (by omega) (by omega) _ (fun hlt b o hA=>?_);rw [if_neg (by omega),hA];simp [lp,HR]
theorem H0 {d:Nat} {t e e' ty:TypeId} {X Y:Operand} {v:Value} {k:IntKind} {ag:Bool} (hS:St W M T n G D F a w) (ht:lm P t=some e) (he:n7 P e=some (ag,R.size)) (hX:ev G X=some v) (hY:ev G Y=some (.int k i)) (q:Nat) (hq:D[q]? = some (.own v e' R.size cl)) (j:Nat) (hj:F[j]? = some (an (HR R) cl (fE xs i cs))) (hg:bu xs i=some x) (hn:Nat.blt d n=true)
  (K':∀ b o p,Jf v b o R.size i p→(∀ k u,cs[k]? = some u→cl[p+k]? = some u)→∀ a,St W M T n ((d,.pointer (some ⟨b,o,none⟩))::G) D F a w→K a w):qT P ⟨some d,.indexAddr t X Y,ty,pos,af,g⟩ a w K :=
 dj (R:=HR R) hS ht he hX hY q hq j hj (vq hg cs) hn fun b o p c hr ho hc=>by
  obtain⟨rfl,_,_⟩:=hr;exact K' b o p ho hc
theorem pm {t ty e:TypeId} {X Y:Operand} {ag:Bool} {z b o k p:Nat} {v u:Value} {us:bv} (hS:St W M T n G D F a w) (hX:ev G X=some (.pointer (some ⟨b,o+k,none⟩))) (hY:ev G Y=some u) (hu:u.cells.toList=us) (ht:n7 P t=some (ag,z)) (q:Nat) (hq:D[q]? = some (.own v e R.size cl)) (j:Nat) (hj:F[j]? = some (an (HR R) cl (fE xs i cs))) (ho:Jf v b o R.size i p) (hg:bu xs i=some x)
  (hz:us.length=z) (hl:Nat.ble (k+z) cs.length=true) (hone:∀ y∈us,y.oneCell'=true)
  (K':∀ cl' w',Kt (fun j=>v.ownBlock=some j) w w'→St W M T n G (D.set q (.own v e R.size cl')) (an (HR R) cl' (fE xs i (mZ cs k us))::F) a w'→K a w'):qT P ⟨none,.store t X Y,ty,pos,af,g⟩ a w K :=
 H1 hS hX hY hu ht q hq j hj ho hg hz hl (fun y hy=>by
  have hr:(HR R).rel (dT T D) w cs (Sum.inl cs):=Dt (hS.get j hj) hg;unfold mZ at hy;simp only [dz] at hy;rcases hy with (hy | hy) | hy
  ·exact hr.2.2 y (List.mem_of_mem_take hy)
  ·exact hone y hy
  ·exact hr.2.2 y (CU hy)) K'
theorem St.closeHs (hS:St W M T n G D F a w) (j:Nat) (hj:F[j]? = some (an (HR R) cl (fE xs i cs))) (hg:bu xs i=some x) (hr:R.rel (dT T D) w cs x):St W M T n G D (an R cl xs::F) a w:=by
 have h:=hS.closeH j hj hr;rw [IN hg] at h;exact h
def z7 {α:Type} (p:List α) (cs:bv):List (bv ⊕ α):=p.map Sum.inr++[Sum.inl cs]
theorem By {p:List α} (h:i.toNat=p.length):fE (p++[x]) i cs=z7 p cs:=by
 unfold fE z7;rw [h,ur,List.set_append_right _ _ (by simp)];simp
theorem Is {v:Value} {e:TypeId} (hS:St W M T n G D F a w) (q:Nat) (hq:D[q]? = some (.own v e R.size cl)) (j:Nat) (hj:F[j]? = some (an R cl xs)):xs.length≤maxLen:=by
 obtain⟨h1,h2⟩:=hS.own _ (a6 hq);have h3:aA R (dT T D) w cl xs:=hS.get j hj;obtain⟨A,m,c,rfl,h4,h5,h6,_⟩:=h1.form h2;have:m=xs.length:=AO h2 (h4.symm.trans h3.1);omega
theorem H8 {p:List α} {x e:α} (hb:p.length≤maxLen) (h:bu (p++[x]) (IntKind.i64.wrap (((p++[x]).length:Int)-1))=some e):x=e∧(IntKind.i64.wrap (((p++[x]).length:Int)-1)).toNat=p.length:=by
 obtain⟨h1,h2,h3⟩:=gK h;have hl:(p++[x]).length=p.length+1:=by simp
 unfold maxLen at hb;have hw:IntKind.i64.wrap (((p++[x]).length:Int)-1)=p.length:=by rw [IntKind.wrap_i64,hl]; omega
 rw [hw] at h3 ⊢;refine⟨?_,by simp⟩;simpa using h3
theorem St.closeLast {p:List α} (hS:St W M T n G D F a w) (j:Nat) (hj:F[j]? = some (an (HR R) cl (z7 p cs))) (hr:R.rel (dT T D) w cs x):St W M T n G D (an R cl (p++[x])::F) a w:=by
 have h:=hS.closeH (R:=R) (xs:=p++[x]) (i:=(p.length:Int)) (cs:=cs) j (by rw [By (by simp)]; exact hj) hr;rw [show (p++[x]).set ((p.length:Int)).toNat x=p++[x] by simp] at h;exact h
end
theorem Nf {P:Program} {W:World} {M T E:Nat→Prop} {n:Nat} {G:List (Nat×Value)} {D:List db} {F:List cA} {a:Act} {w:World} {d:Option Nat} {s t:TypeId} {x:Operand} {ty:TypeId} {k ks:IntKind} {p:Int} (hS:St W M T n G D F a w) (hx:ev G x=some (.int k p)) (hs:P.underlying s=some (.int ks)) (ht:P.underlying t=some .string):Ye P ⟨d,.convert s t x,ty,pos,af,g⟩ a E w (.string (Go.Utf8.encode p)) :=
 Ye.of fun w=>by
  simp [execOp,hS.ev hx,convert,run_underlying hs,run_underlying ht,Conv.intToString]
section
variable {α:Type} {R:aY α} {P:Program} {W:World} {M T E:Nat→Prop} {n:Nat} {G:List (Nat×Value)} {D rs:List db} {F:List cA} {a:Act} {w:World} {K:Act→World→Prop} {xs ys zs:List α} {v0 v1 v2:Value}
theorem Au (w:World) (t ty e:TypeId) (size bytes:Nat) (E:C5 P t e size bytes) (B:Nat) (v:Value) (xs:bv) (hown:rj w B e size v xs)
  (A:Option Addr) (m c:Nat) (news:bv) (hl:news.length=m*size) (hat:At w A news) (h1:∀ u∈news,u.oneCell'=true)
  (h63:xs.length+news.length≤maxLen) (hbytes:(xs.length+news.length)*bytes≤140737488355328) (hbase:B≤w.heap.size) {v':Value} {w':World}
  (hrun:(Builtin.append_ #[t,t] ty #[v,.slice A m c]).run P w = .ok v' w'):(∃ A' n' c',v = .slice A' n' c'∧v' = .slice A' (n'+m) c')∨(∀ k,v'.ownBlock=some k→w.heap.size≤k):=by
 obtain⟨ht,⟨i,z,hi,hz,hsize,hby,hzs⟩,hpos⟩:=E;subst hsize hby;by_cases hm:m=0
 ·subst hm;rcases hown with⟨rfl,rfl⟩|⟨g,off,n,cap,cs,rfl,a1,hb,hg,hnc,hc,hsz,hcs⟩
  ·rw [iM w t ty e i ht hi none 0 0 c A (cX _)] at hrun;injection hrun with h _; exact .inl ⟨_,_,_,rfl,h.symm⟩
  ·rw [iM w t ty e i ht hi _ n cap c A hnc] at hrun;injection hrun with h _; exact .inl ⟨_,_,_,rfl,h.symm⟩
 ·have hne:news≠[]:=by rintro rfl; rw [sH] at hl; rcases Ei.1 hl.symm with h | h <;> omega
  obtain⟨sb,soff,rfl,hcell⟩:∃ b off,A=some ⟨b,off,none⟩∧∀ j u,news[j]? = some u→w.cell? ⟨b,off+j,none⟩=some u:=by
   rcases hat with h | h
   ·exact absurd h hne
   ·exact h
  have hcell':∀ j u,news[j]? = some u→w.cell? ((⟨sb,soff,none⟩:Addr).add j)=some u:=fun j u hu=>by rw [Addr.add_lit]; exact hcell j u hu
  rcases id hown with⟨rfl,rfl⟩|⟨g,off,n,cap,cs,rfl,a1,hb,hg,hnc,hc,hsz,hcs⟩
  ·obtain⟨v2,w2,hr,_,_,g4⟩:=sf (P:=P) w t ty e i.size i.bytes ⟨ht,⟨i,z,hi,hz,rfl,rfl,hzs⟩,hpos⟩ B _ [] hown (some ⟨sb,soff,none⟩) m c news hl hat h1 h63 hbytes hbase;rw [hr] at hrun;injection hrun with h _; subst h;right;intro k hk;rcases g4 with g4 | g4
   ·rw [g4] at hk; simp [Value.ownBlock] at hk
   ·rw [g4] at hk; injection hk with hk; omega
  ·have hnx:n≤xs.length:=by rw [a1]; exact yp _ hpos
   have hmn:m≤news.length:=by rw [hl]; exact yp _ hpos
   by_cases hroom:n+m≤cap
   ·have hfit:off+n*i.size+news.length≤cs.size:=by
     have:(n+m)*i.size≤cap*i.size:=kQ _ hroom;rw [hl]; rw [kf] at this; omega
    have hr:=run_append_room_cells (P:=P) w t ty e i ht hi g off n cap ⟨sb,soff,none⟩ m c news hl hcell' h1 hroom
     (fun j hj=>by rw [hg.cell,n3 (by omega)]; rfl)
     (fun j hj=>hg.free (by omega))
    rw [hr] at hrun;injection hrun with h _;exact .inl ⟨_,_,_,rfl,h.symm⟩
   ·have hr:=run_append_grow (P:=P) w t ty e i z ht hi hz ⟨g,off,none⟩ n cap xs a1 (fun j u hu=>by rw [Addr.add_lit,hg.cell]; exact hcs j u hu)
     ⟨sb,soff,none⟩ m c news hl hcell' (by omega) (by simp only [maxLen] at h63; omega)
     (growslice_fits (by omega) (by
      have h2:(n+m)*i.bytes≤(xs.length+news.length)*i.bytes:=kQ _ (by omega);omega))
    rw [hr] at hrun;injection hrun with h _; subst h;right;intro k hk;simp only [Value.ownBlock,fg] at hk;omega
def zf (R:aY α) (v:Value) (xs:List α) (v':Value) (xs':List α):cA:=⟨fun T w=>(∀ (T:Nat→Prop) (w:World),aE R T w v' xs'→aE R T w v xs)∨aE R T w v xs,fun h k n=>h.imp id fun h=>h.keep k n⟩
theorem St.pfxId (hS:St W M T n G D F a w) (R:aY α) (v:Value) (xs:List α):St W M T n G D (zf R v xs v xs::F) a w:=hS.fact _ (.inl fun _ _ h=>h)
theorem St.pfxSl (hS:St W M T n G D F a w) (i:Nat) (hi:F[i]? = some (zf R v0 xs v1 ys)) (j:Nat) (hj:F[j]? = some (aR R v1 ys)):St W M T n G D (aR R v0 xs::F) a w :=
 hS.fact _ ((show (zf R v0 xs v1 ys).p _ _ from hS.get i hi).elim (fun h=>h _ _ (hS.get j hj)) id)
theorem St.pfxTr (hS:St W M T n G D F a w) (i:Nat) (hi:F[i]? = some (zf R v0 xs v1 ys)) (j:Nat) (hj:F[j]? = some (zf R v1 ys v2 zs)):St W M T n G D (zf R v0 xs v2 zs::F) a w :=
 hS.fact _ ((show (zf R v0 xs v1 ys).p _ _ from hS.get i hi).elim (fun h=>(show (zf R v1 ys v2 zs).p _ _ from hS.get j hj).elim (fun k=>.inl fun T w q=>h T w (k T w q)) (fun k=>.inr (h _ _ k))) .inr)
theorem zW {d:Nat} {ty t e:TypeId} {s x:Operand} {bt:Nat} {v u:Value} {cl:bv} (hS:St W M T n G D F a w) (he:zJ P t=some (e,R.size,bt)) (hb:Nat.ble (R.size*bt) 32768=true) (hbs:Nat.ble R.size 32768=true) (hs:ev G s=some v) (hx:ev G x=some u) (i:Nat) (hi:D[i]? = some (.own v e R.size cl)) (p:Nat) (hp:F[p]? = some (an R cl xs)) (q:Nat) (hq:F[q]? = some (aR R u ys)) (hroom:bH (xs.length+ys.length)=true) (hn:Nat.blt d n=true)
  (k:∀ v' cl' a w',Kt (fun j=>v.ownBlock=some j) w w'→St W M T n ((d,v')::G) (D.set i (.own v' e R.size cl')) (zf R v xs v' (xs++ys)::an R cl' (xs++ys)::F) a w'→K a w'):qT P ⟨some d,.call { callee:=.builtin .append,args:=#[s,x],argTypes:=#[t,t] },ty,pos,af,g⟩ a w K:=by
 obtain⟨hown,hsz⟩:=hS.own _ (a6 hi);have hrow:aA R (dT T D) w cl xs:=hS.get p hp;have hsl:aE R (dT T D) w u ys:=hS.get q hq;obtain⟨A,c,rfl,_⟩:=id hsl;obtain⟨_,cs,hat,hr⟩:=hsl.rows hsz;have h1:=u4 hroom;have q1:=o4 hb;have q2:=o4 hbs;have hz:(cl.length+cs.length)≤4294967296*R.size:=by rw [hrow.1,hr.1,← kf]; exact kQ _ h1
 have q3:(cl.length+cs.length)*bt≤4294967296*(R.size*bt):=by rw [← Nat.mul_assoc]; exact kQ _ hz
 obtain⟨v',w',hrun,g2,g3,g4⟩:=sf (P:=P) w t ty e R.size bt (tP he) 0 v cl hown A ys.length c cs hr.1 hat (hr.cell hsz) (by unfold maxLen; omega) (by omega) (cR _);have g5:=yY (P:=P) w t ty e R.size bt (tP he) 0 v cl hown A ys.length c cs hr.1 hat (hr.cell hsz) (by unfold maxLen; omega) (by omega) (cR _) hrun;have g6:=Au (P:=P) w t ty e R.size bt (tP he) 0 v cl hown A ys.length c cs hr.1 hat (hr.cell hsz) (by unfold maxLen; omega) (by omega) (cR _) hrun;have hex:(execOp a.eval ⟨some d,.call { callee:=.builtin .append,args:=#[s,x],argTypes:=#[t,t] },ty,pos,af,g⟩).run P w = .ok (.value v') w':=by
  simp only [execOp,resolve,invoke,builtin,Sem.run_bind,Sem.run_pure,Result.andThen_ok,BZ,tE,yQ,hS.ev hs,hS.ev hx,hrun]
 have h5:=hS.fact (an R (cl++cs) (xs++ys)) (hrow.append hr);have h6:=h5.turn hi (Kt.grown g3) (r':=.own v' e R.size (cl++cs)) ⟨g2,hsz⟩ (fun j hj=>by
  rcases g4 with g4 | g4
  ·have hj:v'.ownBlock=some j:=hj;rw [g4] at hj; exact .inl hj
  ·have hj:v'.ownBlock=some j:=hj;rw [g4] at hj; injection hj with hj; exact .inr (by omega))
 have hrow':aA R (dT T (D.set i (.own v' e R.size (cl++cs)))) w' cl xs:=h6.get (p+1) hp;refine ux hex (k v' (cl++cs) _ w' (Kt.grown g3) ((h6.fact (zf R v xs v' (xs++ys)) ?_).put hn v'));rcases g6 with⟨A',n',c',rfl,rfl⟩ | g6
 ·left;intro T1 w1 hs1;obtain⟨A2,c2,e2,_⟩:=id hs1;injection e2 with _ e2 _;rw [cS] at e2;have e3:n'=xs.length:=by omega
  subst e3;rw [← cS] at hs1;have h9:=hs1.cut (l:=0) (h:=xs.length) (cR _) (by simp) A' (fun _ b o hA=>by rw [hA]; simp);simpa using h9
 ·right;refine rj.rd hsz g5 hrow' fun k hk hT=>?_;rcases hT with hT | ⟨r,hr2,hT⟩
  ·exact hS.notD i hi hk (.inl hT)
  ·rcases EN hr2 with rfl | ⟨j',hj',hr2⟩
   ·have h8:=g6 k hT;have h9:=hS.dlt k (.inr ⟨_,a6 hi,hk⟩);omega
   ·exact hS.notD i hi hk (.inr ⟨r,List.mem_eraseIdx_iff_getElem?.2 ⟨j',hj',hr2⟩,hT⟩)
end
end
section
open Go.RowKit
structure ah where
  Kind:Int
  Text:ByteArray
def ac:aY ah where
  size:=2
  rel:=fun _ _ cs x=>cs=[.int .i64 x.Kind,.string x.Text]
  len:=by rintro _ _ _ _ rfl; rfl
  one:=by rintro _ _ _ _ rfl; exact (oc rfl (oc rfl on))
  keep:=fun h _ _=>h
structure aN where
  Key:ah
  Value:ByteArray
  Changed:Int
def ae:aY aN where
  size:=4
  rel:=fun _ _ cs x=>cs=[.int .i64 x.Key.Kind,.string x.Key.Text,.string x.Value,.int .i64 x.Changed]
  len:=by rintro _ _ _ _ rfl; rfl
  one:=by rintro _ _ _ _ rfl; exact (oc rfl (oc rfl (oc rfl (oc rfl on))))
  keep:=fun h _ _=>h
structure aw where
  Key:ah
  Value:ByteArray
  Reads:(List ah)
  Changed:Int
  Verified:Int
  Cost:Int
  Dirty:Bool
def aa:aY aw where
  size:=8
  rel:=fun T w cs x=>∃ v1,cs=[.int .i64 x.Key.Kind,.string x.Key.Text,.string x.Value,v1,.int .i64 x.Changed,.int .i64 x.Verified,.int .i64 x.Cost,.bool x.Dirty]∧aE ac T w v1 x.Reads
  len:=by rintro _ _ _ _ ⟨v1,rfl,hv1⟩; rfl
  one:=by rintro _ _ _ _ ⟨v1,rfl,hv1⟩; exact (oc rfl (oc rfl (oc rfl (oc hv1.one (oc rfl (oc rfl (oc rfl (oc rfl on))))))))
  keep:=by rintro _ _ _ _ _ _ ⟨v1,rfl,hv1⟩ k n; exact⟨v1,rfl,hv1.keep k n⟩
structure aj where
  Revision:Int
  Inputs:(List aN)
  Records:(List aw)
structure am where
  Key:ah
  Value:ByteArray
def ad:aY am where
  size:=3
  rel:=fun _ _ cs x=>cs=[.int .i64 x.Key.Kind,.string x.Key.Text,.string x.Value]
  len:=by rintro _ _ _ _ rfl; rfl
  one:=by rintro _ _ _ _ rfl; exact (oc rfl (oc rfl (oc rfl on)))
  keep:=fun h _ _=>h
theorem Nt:aT aP 100=true:=by kernel_rfl
theorem Nu:aT aP 101=true:=by kernel_rfl
theorem KS:aT aP 102=true:=by kernel_rfl
theorem Nv:aT aP 103=true:=by kernel_rfl
theorem KT:aT aP 104=true:=by kernel_rfl
theorem KU:aT aP 105=true:=by kernel_rfl
theorem Nx:aT aP 106=true:=by kernel_rfl
theorem Ny:aT aP 107=true:=by kernel_rfl
theorem Nz:aT aP 108=true:=by kernel_rfl
theorem KV:aT aP 111=true:=by kernel_rfl
theorem NL:aT aP 132=true:=by kernel_rfl
theorem NM:aT aP 133=true:=by kernel_rfl
theorem NN:aT aP 134=true:=by kernel_rfl
theorem K0:aT aP 135=true:=by kernel_rfl
theorem NO:aT aP 136=true:=by kernel_rfl
theorem NP:aT aP 137=true:=by kernel_rfl
theorem NQ:aT aP 138=true:=by kernel_rfl
theorem NR:aT aP 139=true:=by kernel_rfl
theorem NV:aT aP 161=true:=by kernel_rfl
theorem NW:aT aP 162=true:=by kernel_rfl
theorem N8:aT aP 35=true:=by kernel_rfl
theorem EC:aT aP 36=true:=by kernel_rfl
theorem JF:aT aP 43=true:=by kernel_rfl
theorem Pm:aT aP 61=true:=by kernel_rfl
theorem Od:aT aP 62=true:=by kernel_rfl
theorem JG:aT aP 63=true:=by kernel_rfl
theorem Pn:aT aP 64=true:=by kernel_rfl
theorem Po:aT aP 65=true:=by kernel_rfl
theorem Pp:aT aP 66=true:=by kernel_rfl
theorem Pq:aT aP 67=true:=by kernel_rfl
theorem JH:aT aP 68=true:=by kernel_rfl
theorem LP:aT aP 69=true:=by kernel_rfl
theorem Pr:aT aP 70=true:=by kernel_rfl
theorem Ps:aT aP 71=true:=by kernel_rfl
theorem Pt:aT aP 72=true:=by kernel_rfl
theorem Pu:aT aP 73=true:=by kernel_rfl
theorem Pv:aT aP 74=true:=by kernel_rfl
theorem Oe:aT aP 80=true:=by kernel_rfl
theorem PG:aT aP 96=true:=by kernel_rfl
theorem PH:aT aP 97=true:=by kernel_rfl
theorem PI:aT aP 98=true:=by kernel_rfl
theorem PJ:aT aP 99=true:=by kernel_rfl
theorem JO:zJ aP 22=some (3,1,8):=by kernel_rfl
theorem A4:zJ aP 28=some (69,4,48):=by kernel_rfl
theorem tp:zJ aP 29=some (84,8,96):=by kernel_rfl
theorem gY:zJ aP 58=some (44,2,24):=by kernel_rfl
theorem L9:fi aP 31 0=some 0:=by kernel_rfl
theorem Ma:fi aP 31 1=some 1:=by kernel_rfl
theorem Mb:fi aP 31 2=some 2:=by kernel_rfl
theorem Mc:fi aP 44 0=some 0:=by kernel_rfl
theorem Md:fi aP 44 1=some 1:=by kernel_rfl
theorem Me:fi aP 46 0=some 0:=by kernel_rfl
theorem Mf:fi aP 46 1=some 2:=by kernel_rfl
theorem Mk:fi aP 69 0=some 0:=by kernel_rfl
theorem Ml:fi aP 69 1=some 2:=by kernel_rfl
theorem Mm:fi aP 69 2=some 3:=by kernel_rfl
theorem Mn:fi aP 84 0=some 0:=by kernel_rfl
theorem Mo:fi aP 84 1=some 2:=by kernel_rfl
theorem Mp:fi aP 84 2=some 3:=by kernel_rfl
theorem Mq:fi aP 84 3=some 4:=by kernel_rfl
theorem Mr:fi aP 84 4=some 5:=by kernel_rfl
theorem Ms:fi aP 84 5=some 6:=by kernel_rfl
theorem Mt:fi aP 84 6=some 7:=by kernel_rfl
theorem Om:Tryz.prog.underlying 169=some (.interface (Tryz.prog.methodsAt 169)):=by kernel_rfl
theorem mixed:Tryz.prog.follows .mixedOrders=true:=by kernel_rfl
theorem qJ:FN aP 73=some (44,9):=by kernel_rfl
theorem Iv:DM aP 69=some [(0,2),(2,1),(3,1)]:=by kernel_rfl
theorem G5:lm aP 22=some 3:=by kernel_rfl
theorem u5:lm aP 28=some 69:=by kernel_rfl
theorem qB:lm aP 29=some 84:=by kernel_rfl
theorem tA:lm aP 34=some 46:=by kernel_rfl
theorem kB:lm aP 58=some 44:=by kernel_rfl
theorem P8:n7 aP 28=some (false,1):=by kernel_rfl
theorem P9:n7 aP 29=some (false,1):=by kernel_rfl
theorem CM:n7 aP 3=some (false,1):=by kernel_rfl
theorem fy:n7 aP 31=some (true,3):=by kernel_rfl
theorem M4:n7 aP 4=some (false,1):=by kernel_rfl
theorem dR:n7 aP 44=some (true,2):=by kernel_rfl
theorem s9:n7 aP 46=some (true,3):=by kernel_rfl
theorem E7:n7 aP 58=some (false,1):=by kernel_rfl
theorem uz:n7 aP 69=some (true,4):=by kernel_rfl
theorem m5:n7 aP 84=some (true,8):=by kernel_rfl
theorem Ji:n7 aP 9=some (false,1):=by kernel_rfl
theorem O1:i7 aP 3=some [.int .i64 0]:=by kernel_rfl
theorem mo:i7 aP 31=some [.int .i64 0,.slice none 0 0,.slice none 0 0]:=by kernel_rfl
theorem gU:i7 aP 44=some [.int .i64 0,.string bI]:=by kernel_rfl
theorem ir:i7 aP 46=some [.int .i64 0,.string bI,.string bI]:=by kernel_rfl
theorem ug:i7 aP 69=some [.int .i64 0,.string bI,.string bI,.int .i64 0]:=by kernel_rfl
theorem gV:i7 aP 84=some [.int .i64 0,.string bI,.string bI,.slice none 0 0,.int .i64 0,.int .i64 0,.int .i64 0,.bool false]:=by kernel_rfl
theorem zL {W:World} {M T E:Nat→Prop} {n:Nat} {G:List (Nat×Value)} {D:List db} {F:List cA} {a:Act} {w:World} {d:Option Nat} {t2:TypeId} {x y:Operand} {ty:TypeId} {pos:String} {af:Array Edge} {g:Option (Nat×Bool)} {p0 q0:Int} {p1 q1:ByteArray} (hS:St W M T n G D F a w) (hx:ev G x=some (.agg #[.int .i64 p0,.string p1])) (hy:ev G y=some (.agg #[.int .i64 q0,.string q1])):Ye aP ⟨d,.binOp .eql 44 x y t2,ty,pos,af,g⟩ a E w (.bool (p0==q0&&p1.toList==q1.toList)) :=
  Ye.of fun w=>by
    have h1:=hS.ev hx
    have h2:=hS.ev hy
    clear hS hx hy
    simp only [execOp,h1,h2,eqGuard]
    simp [go_sem]
    (repeat' split) <;> simp_all
theorem zM {W:World} {M T E:Nat→Prop} {n:Nat} {G:List (Nat×Value)} {D:List db} {F:List cA} {a:Act} {w:World} {d:Option Nat} {t2:TypeId} {x y:Operand} {ty:TypeId} {pos:String} {af:Array Edge} {g:Option (Nat×Bool)} {p0 q0:Int} {p1 q1:ByteArray} (hS:St W M T n G D F a w) (hx:ev G x=some (.agg #[.int .i64 p0,.string p1])) (hy:ev G y=some (.agg #[.int .i64 q0,.string q1])):Ye aP ⟨d,.binOp .neq 44 x y t2,ty,pos,af,g⟩ a E w (.bool (!(p0==q0&&p1.toList==q1.toList))) :=
  Ye.of fun w=>by
    have h1:=hS.ev hx
    have h2:=hS.ev hy
    clear hS hx hy
    simp only [execOp,h1,h2,eqGuard]
    simp [go_sem]
    (repeat' split) <;> simp_all
def aL (a b:ah):Bool:=a.Kind==b.Kind&&a.Text.toList==b.Text.toList
theorem cT:xL aP 44 ac true aL where
  check:=by
    rintro b T w0 w c x rfl
    show (Instr.checkKey b (Nat.succ (Nat.succ 9998)) 44 _).run aP w=_
    generalize 9998=N
    simp [Instr.checkKey,bp,go_sem]
  eq:=by
    rintro T T2 w0 w1 w c d x y rfl rfl
    unfold aL Op.equal
    show (Op.equalIn (Nat.succ (Nat.succ 9998)) 44 _ _).run aP w=_
    generalize 9998=N
    simp [Op.equalIn,bp,beq_toListBytes,go_sem]
    (try (repeat' split) <;> simp_all)
  now:=⟨_,Tryz.underlying44,by rintro T T2 w0 w1 c d x y rfl rfl; first | (exact .inl rfl) | (right; unfold aL; simp [bp,Instr.sameNow,beq_toListBytes])⟩
  bits:=by
    rintro T T2 w0 w1 c d x y rfl rfl h
    unfold aL at h
    show Instr.sameBits (Nat.succ (Nat.succ 9998)) _ _=_
    generalize 9998=N
    simp [bp,Instr.sameBits,beq_toListBytes] at h ⊢
    simp [h]
end
section
open Go.RowKit
structure aX where
  L:(List Int)
  At:Int
structure dA where
  Cell:Bool
  Pick:Bool
  N:Int
  Else:Int
def ff:aY dA where
  size:=4
  rel:=fun _ _ cs x=>cs=[.bool x.Cell,.bool x.Pick,.int .i64 x.N,.int .i64 x.Else]
  len:=by rintro _ _ _ _ rfl; rfl
  one:=by rintro _ _ _ _ rfl; exact (oc rfl (oc rfl (oc rfl (oc rfl on))))
  keep:=fun h _ _=>h
structure aW where
  Ring:Bool
  Asks:(List dA)
  Final:Int
  C:Int
def aC:aY aW where
  size:=4
  rel:=fun T w cs x=>∃ v1,cs=[.bool x.Ring,v1,.int .i64 x.Final,.int .i64 x.C]∧aE ff T w v1 x.Asks
  len:=by rintro _ _ _ _ ⟨v1,rfl,hv1⟩; rfl
  one:=by rintro _ _ _ _ ⟨v1,rfl,hv1⟩; exact (oc rfl (oc hv1.one (oc rfl (oc rfl on))))
  keep:=by rintro _ _ _ _ _ _ ⟨v1,rfl,hv1⟩ k n; exact⟨v1,rfl,hv1.keep k n⟩
theorem LA:aT aP 17=true:=by kernel_rfl
theorem EB:aT aP 18=true:=by kernel_rfl
theorem xO:aT aP 19=true:=by kernel_rfl
theorem LE:aT aP 29=true:=by kernel_rfl
theorem nB:aT aP 34=true:=by kernel_rfl
theorem Pc:aT aP 39=true:=by kernel_rfl
theorem Oc:aT aP 53=true:=by kernel_rfl
theorem Pg:aT aP 54=true:=by kernel_rfl
theorem Pw:aT aP 75=true:=by kernel_rfl
theorem JP:zJ aP 27=some (89,4,48):=by kernel_rfl
theorem qc:zJ aP 34=some (46,3,40):=by kernel_rfl
theorem xV:zJ aP 77=some (9,1,16):=by kernel_rfl
theorem L7:zJ aP 87=some (93,4,24):=by kernel_rfl
theorem Mi:fi aP 64 0=some 0:=by kernel_rfl
theorem Mj:fi aP 64 1=some 1:=by kernel_rfl
theorem Mu:fi aP 89 0=some 0:=by kernel_rfl
theorem Mv:fi aP 89 1=some 1:=by kernel_rfl
theorem Mw:fi aP 89 2=some 2:=by kernel_rfl
theorem Mx:fi aP 89 3=some 3:=by kernel_rfl
theorem My:fi aP 93 0=some 0:=by kernel_rfl
theorem Mz:fi aP 93 1=some 1:=by kernel_rfl
theorem MA:fi aP 93 2=some 2:=by kernel_rfl
theorem MB:fi aP 93 3=some 3:=by kernel_rfl
theorem EQ:DM aP 44=some [(0,1),(1,1)]:=by kernel_rfl
theorem uQ:DM aP 46=some [(0,2),(2,1)]:=by kernel_rfl
theorem PV:DM aP 64=some [(0,1),(1,1)]:=by kernel_rfl
theorem Ko:DM aP 89=some [(0,1),(1,1),(2,1),(3,1)]:=by kernel_rfl
theorem Oz:DM aP 93=some [(0,1),(1,1),(2,1),(3,1)]:=by kernel_rfl
theorem yk:lm aP 27=some 89:=by kernel_rfl
theorem IT:lm aP 77=some 9:=by kernel_rfl
theorem M2:lm aP 87=some 93:=by kernel_rfl
theorem P6:n7 aP 22=some (false,1):=by kernel_rfl
theorem Qb:n7 aP 87=some (false,1):=by kernel_rfl
theorem xA:n7 aP 89=some (true,4):=by kernel_rfl
theorem M5:n7 aP 93=some (true,4):=by kernel_rfl
theorem Qd:i7 aP 64=some [.slice none 0 0,.int .i64 0]:=by kernel_rfl
theorem y0:i7 aP 89=some [.bool false,.slice none 0 0,.int .i64 0,.int .i64 0]:=by kernel_rfl
theorem Ng:i7 aP 9=some [.string bI]:=by kernel_rfl
theorem Ff:i7 aP 93=some [.bool false,.bool false,.int .i64 0,.int .i64 0]:=by kernel_rfl
theorem Oj {W:World} {M T E:Nat→Prop} {n:Nat} {G:List (Nat×Value)} {D:List db} {F:List cA} {a:Act} {w:World} {d:Option Nat} {t2:TypeId} {x y:Operand} {ty:TypeId} {pos:String} {af:Array Edge} {g:Option (Nat×Bool)} {p0 q0:Int} {p1 q1:ByteArray} {p2 q2:ByteArray} {p3 q3:Int} (hS:St W M T n G D F a w) (hx:ev G x=some (.agg #[.int .i64 p0,.string p1,.string p2,.int .i64 p3])) (hy:ev G y=some (.agg #[.int .i64 q0,.string q1,.string q2,.int .i64 q3])):Ye aP ⟨d,.binOp .neq 69 x y t2,ty,pos,af,g⟩ a E w (.bool (!(p0==q0&&p1.toList==q1.toList&&p2.toList==q2.toList&&p3==q3))) :=
  Ye.of fun w=>by
    have h1:=hS.ev hx
    have h2:=hS.ev hy
    clear hS hx hy
    simp only [execOp,h1,h2,eqGuard]
    simp [go_sem]
    (repeat' split) <;> simp_all
end
section
open Go.RowKit
theorem KW:aT aP 115=true:=by kernel_rfl
theorem Fr:aT aP 117=true:=by kernel_rfl
theorem NG:aT aP 126=true:=by kernel_rfl
theorem JD:aT aP 15=true:=by kernel_rfl
theorem HA:aT aP 22=true:=by kernel_rfl
theorem Oa:aT aP 42=true:=by kernel_rfl
theorem Gw:aT aP 46=true:=by kernel_rfl
theorem yS:aT aP 47=true:=by kernel_rfl
theorem ED:aT aP 48=true:=by kernel_rfl
theorem Pf:aT aP 49=true:=by kernel_rfl
theorem xP:aT aP 52=true:=by kernel_rfl
theorem JI:aT aP 79=true:=by kernel_rfl
theorem Pz:aT aP 81=true:=by kernel_rfl
theorem PA:aT aP 83=true:=by kernel_rfl
theorem xQ:aT aP 90=true:=by kernel_rfl
end
section
open Go.RowKit
structure bB where
  Key:ah
  Running:Bool
  At:Int
  Reads:(List ah)
  Answers:(List ByteArray)
def az:aY bB where
  size:=6
  rel:=fun T w cs x=>∃ v1 v2,cs=[.int .i64 x.Key.Kind,.string x.Key.Text,.bool x.Running,.int .i64 x.At,v1,v2]∧aE ac T w v1 x.Reads∧aE aY.str T w v2 x.Answers
  len:=by rintro _ _ _ _ ⟨v1,v2,rfl,hv1,hv2⟩; rfl
  one:=by rintro _ _ _ _ ⟨v1,v2,rfl,hv1,hv2⟩; exact (oc rfl (oc rfl (oc rfl (oc rfl (oc hv1.one (oc hv2.one on))))))
  keep:=by rintro _ _ _ _ _ _ ⟨v1,v2,rfl,hv1,hv2⟩ k n; exact⟨v1,v2,rfl,hv1.keep k n,hv2.keep k n⟩
structure dB where
  Rules:(List aW)
  Base:aj
  Goals:(List ah)
  Stack:(List bB)
  Ran:(List ah)
structure dg where
  Member:ah
  Read:ah
def gh:aY dg where
  size:=4
  rel:=fun _ _ cs x=>cs=[.int .i64 x.Member.Kind,.string x.Member.Text,.int .i64 x.Read.Kind,.string x.Read.Text]
  len:=by rintro _ _ _ _ rfl; rfl
  one:=by rintro _ _ _ _ rfl; exact (oc rfl (oc rfl (oc rfl (oc rfl on))))
  keep:=fun h _ _=>h
theorem NC:aT aP 118=true:=by kernel_rfl
theorem KX:aT aP 119=true:=by kernel_rfl
theorem ND:aT aP 120=true:=by kernel_rfl
theorem KY:aT aP 121=true:=by kernel_rfl
theorem Bu:aT aP 122=true:=by kernel_rfl
theorem mA:aT aP 129=true:=by kernel_rfl
theorem K1:aT aP 148=true:=by kernel_rfl
theorem K8:aT aP 180=true:=by kernel_rfl
theorem K9:aT aP 181=true:=by kernel_rfl
theorem LQ:aT aP 82=true:=by kernel_rfl
theorem LS:aT aP 84=true:=by kernel_rfl
theorem LT:aT aP 85=true:=by kernel_rfl
theorem PB:aT aP 86=true:=by kernel_rfl
theorem LX:aT aP 94=true:=by kernel_rfl
theorem Lf:zJ aP 184=some (198,4,48):=by kernel_rfl
theorem Cd:zJ aP 95=some (131,6,88):=by kernel_rfl
theorem Cf:fi aP 131 3=some 4:=by kernel_rfl
theorem Cg:fi aP 131 4=some 5:=by kernel_rfl
theorem MC:fi aP 97 0=some 0:=by kernel_rfl
theorem ME:fi aP 97 1=some 1:=by kernel_rfl
theorem MF:fi aP 97 2=some 4:=by kernel_rfl
theorem MG:fi aP 97 3=some 5:=by kernel_rfl
theorem MH:fi aP 97 4=some 6:=by kernel_rfl
theorem vT:FN aP 136=some (44,4):=by kernel_rfl
theorem Ox:DM aP 198=some [(0,2),(2,2)]:=by kernel_rfl
theorem Oy:DM aP 84=some [(0,2),(2,1),(3,1),(4,1),(5,1),(6,1),(7,1)]:=by kernel_rfl
theorem MX:DM aP 97=some [(0,1),(1,3),(4,1),(5,1),(6,1)]:=by kernel_rfl
theorem Av:lm aP 95=some 131:=by kernel_rfl
theorem u7:n7 aP 131=some (true,6):=by kernel_rfl
theorem P7:n7 aP 27=some (false,1):=by kernel_rfl
theorem E8:n7 aP 77=some (false,1):=by kernel_rfl
theorem OO:n7 aP 95=some (false,1):=by kernel_rfl
theorem yn:n7 aP 97=some (true,7):=by kernel_rfl
theorem tI:i7 aP 131=some [.int .i64 0,.string bI,.bool false,.int .i64 0,.slice none 0 0,.slice none 0 0]:=by kernel_rfl
theorem Ge:i7 aP 198=some [.int .i64 0,.string bI,.int .i64 0,.string bI]:=by kernel_rfl
theorem AV:i7 aP 97=some [.slice none 0 0,.int .i64 0,.slice none 0 0,.slice none 0 0,.slice none 0 0,.slice none 0 0,.slice none 0 0]:=by kernel_rfl
theorem Nj:Lr aP 4=some (.bool false):=by kernel_rfl
end
section
open Go.RowKit
class uC (P:Program) (t:TypeId) (b:outParam Bool) (z:outParam Nat):Prop where
 h:n7 P t=some (b,z)
class pY (P:Program) (s:TypeId) (f:Nat) (k:outParam Nat):Prop where
 h:fi P s f=some k
class Fj (P:Program) (t:TypeId) (e:outParam TypeId):Prop where
 h:lm P t=some e
class KM (P:Program) (t:TypeId) (u:outParam TypeDesc):Prop where
 h:P.underlying t=some u
theorem fD {D:List cA} {r:cA} (h:∃ i:Nat,D[i]? = some r:=by first | exact⟨0,rfl⟩ | exact⟨1,rfl⟩ | exact⟨2,rfl⟩ | exact⟨3,rfl⟩ | exact⟨4,rfl⟩ | exact⟨5,rfl⟩ | exact⟨6,rfl⟩ | exact⟨7,rfl⟩ | exact⟨8,rfl⟩ | exact⟨9,rfl⟩ | exact⟨10,rfl⟩ | exact⟨11,rfl⟩ | exact⟨12,rfl⟩ | exact⟨13,rfl⟩ | exact⟨14,rfl⟩ | exact⟨15,rfl⟩ | exact⟨16,rfl⟩ | exact⟨17,rfl⟩ | exact⟨18,rfl⟩ | exact⟨19,rfl⟩ | exact⟨20,rfl⟩ | exact⟨21,rfl⟩ | exact⟨22,rfl⟩ | exact⟨23,rfl⟩ | exact⟨24,rfl⟩ | exact⟨25,rfl⟩ | exact⟨26,rfl⟩ | exact⟨27,rfl⟩ | exact⟨28,rfl⟩ | exact⟨29,rfl⟩):∃ i:Nat,D[i]? = some r:=h
theorem fR {D:List db} {r:db} (h:∃ i:Nat,D[i]? = some r:=by first | exact⟨0,rfl⟩ | exact⟨1,rfl⟩ | exact⟨2,rfl⟩ | exact⟨3,rfl⟩ | exact⟨4,rfl⟩ | exact⟨5,rfl⟩ | exact⟨6,rfl⟩ | exact⟨7,rfl⟩ | exact⟨8,rfl⟩ | exact⟨9,rfl⟩ | exact⟨10,rfl⟩ | exact⟨11,rfl⟩ | exact⟨12,rfl⟩ | exact⟨13,rfl⟩ | exact⟨14,rfl⟩ | exact⟨15,rfl⟩ | exact⟨16,rfl⟩ | exact⟨17,rfl⟩ | exact⟨18,rfl⟩ | exact⟨19,rfl⟩ | exact⟨20,rfl⟩ | exact⟨21,rfl⟩ | exact⟨22,rfl⟩ | exact⟨23,rfl⟩ | exact⟨24,rfl⟩ | exact⟨25,rfl⟩ | exact⟨26,rfl⟩ | exact⟨27,rfl⟩ | exact⟨28,rfl⟩ | exact⟨29,rfl⟩):∃ i:Nat,D[i]? = some r:=h
theorem wP (i:Nat) {D:List db} {r:Option db} (h:D[i]? = r):D[i]? = r:=h
theorem fI {D:List db} {r:db} {i:Nat} (h:D[i]? = some r:=by first | (refine wP 0 ?_; exact rfl) | (refine wP 1 ?_; exact rfl) | (refine wP 2 ?_; exact rfl) | (refine wP 3 ?_; exact rfl) | (refine wP 4 ?_; exact rfl) | (refine wP 5 ?_; exact rfl) | (refine wP 6 ?_; exact rfl) | (refine wP 7 ?_; exact rfl) | (refine wP 8 ?_; exact rfl) | (refine wP 9 ?_; exact rfl) | (refine wP 10 ?_; exact rfl) | (refine wP 11 ?_; exact rfl) | (refine wP 12 ?_; exact rfl) | (refine wP 13 ?_; exact rfl) | (refine wP 14 ?_; exact rfl) | (refine wP 15 ?_; exact rfl) | (refine wP 16 ?_; exact rfl) | (refine wP 17 ?_; exact rfl) | (refine wP 18 ?_; exact rfl) | (refine wP 19 ?_; exact rfl) | (refine wP 20 ?_; exact rfl) | (refine wP 21 ?_; exact rfl) | (refine wP 22 ?_; exact rfl) | (refine wP 23 ?_; exact rfl) | (refine wP 24 ?_; exact rfl) | (refine wP 25 ?_; exact rfl) | (refine wP 26 ?_; exact rfl) | (refine wP 27 ?_; exact rfl) | (refine wP 28 ?_; exact rfl) | (refine wP 29 ?_; exact rfl)):D[i]? = some r:=h
theorem kn {c b:Bool} (h:c=b:=by first | assumption | exact rfl | exact nt (by assumption) | exact nf (by assumption)):c=b:=h
def Tk (Z o:Nat) (cs us:bv):Prop:=(cs.drop o).take Z=us∧us.length=Z
def Cl (Z:Nat) (v:Value) (us:bv):Prop:=v.cells.toList=us∧us.length=Z
theorem Q9 {o:Nat} {cs:bv} {v0:Value} (h:(cs.drop o).take 1=[v0]):Tk 1 o cs [v0]:=⟨h,rfl⟩
theorem Qm {v v0:Value} (h:v.cells.toList=[v0]):Cl 1 v [v0]:=⟨h,rfl⟩
theorem Ra {o:Nat} {cs:bv} {v0 v1:Value} (h:(cs.drop o).take 2=[v0,v1]):Tk 2 o cs [v0,v1]:=⟨h,rfl⟩
theorem wo {v v0 v1:Value} (h:v.cells.toList=[v0,v1]):Cl 2 v [v0,v1]:=⟨h,rfl⟩
theorem Rb {o:Nat} {cs:bv} {v0 v1 v2:Value} (h:(cs.drop o).take 3=[v0,v1,v2]):Tk 3 o cs [v0,v1,v2]:=⟨h,rfl⟩
theorem qE {v v0 v1 v2:Value} (h:v.cells.toList=[v0,v1,v2]):Cl 3 v [v0,v1,v2]:=⟨h,rfl⟩
theorem Rc {o:Nat} {cs:bv} {v0 v1 v2 v3:Value} (h:(cs.drop o).take 4=[v0,v1,v2,v3]):Tk 4 o cs [v0,v1,v2,v3]:=⟨h,rfl⟩
theorem sI {v v0 v1 v2 v3:Value} (h:v.cells.toList=[v0,v1,v2,v3]):Cl 4 v [v0,v1,v2,v3]:=⟨h,rfl⟩
theorem Rd {o:Nat} {cs:bv} {v0 v1 v2 v3 v4:Value} (h:(cs.drop o).take 5=[v0,v1,v2,v3,v4]):Tk 5 o cs [v0,v1,v2,v3,v4]:=⟨h,rfl⟩
theorem wq {v v0 v1 v2 v3 v4:Value} (h:v.cells.toList=[v0,v1,v2,v3,v4]):Cl 5 v [v0,v1,v2,v3,v4]:=⟨h,rfl⟩
theorem Rf {o:Nat} {cs:bv} {v0 v1 v2 v3 v4 v5:Value} (h:(cs.drop o).take 6=[v0,v1,v2,v3,v4,v5]):Tk 6 o cs [v0,v1,v2,v3,v4,v5]:=⟨h,rfl⟩
theorem C1 {v v0 v1 v2 v3 v4 v5:Value} (h:v.cells.toList=[v0,v1,v2,v3,v4,v5]):Cl 6 v [v0,v1,v2,v3,v4,v5]:=⟨h,rfl⟩
theorem Rg {o:Nat} {cs:bv} {v0 v1 v2 v3 v4 v5 v6:Value} (h:(cs.drop o).take 7=[v0,v1,v2,v3,v4,v5,v6]):Tk 7 o cs [v0,v1,v2,v3,v4,v5,v6]:=⟨h,rfl⟩
theorem xR {v v0 v1 v2 v3 v4 v5 v6:Value} (h:v.cells.toList=[v0,v1,v2,v3,v4,v5,v6]):Cl 7 v [v0,v1,v2,v3,v4,v5,v6]:=⟨h,rfl⟩
theorem Rh {o:Nat} {cs:bv} {v0 v1 v2 v3 v4 v5 v6 v7:Value} (h:(cs.drop o).take 8=[v0,v1,v2,v3,v4,v5,v6,v7]):Tk 8 o cs [v0,v1,v2,v3,v4,v5,v6,v7]:=⟨h,rfl⟩
theorem xK {v v0 v1 v2 v3 v4 v5 v6 v7:Value} (h:v.cells.toList=[v0,v1,v2,v3,v4,v5,v6,v7]):Cl 8 v [v0,v1,v2,v3,v4,v5,v6,v7]:=⟨h,rfl⟩
theorem Ri {o:Nat} {cs:bv} {v0 v1 v2 v3 v4 v5 v6 v7 v8:Value} (h:(cs.drop o).take 9=[v0,v1,v2,v3,v4,v5,v6,v7,v8]):Tk 9 o cs [v0,v1,v2,v3,v4,v5,v6,v7,v8]:=⟨h,rfl⟩
theorem L0 {v v0 v1 v2 v3 v4 v5 v6 v7 v8:Value} (h:v.cells.toList=[v0,v1,v2,v3,v4,v5,v6,v7,v8]):Cl 9 v [v0,v1,v2,v3,v4,v5,v6,v7,v8]:=⟨h,rfl⟩
theorem P3 {o:Nat} {cs:bv} {v0 v1 v2 v3 v4 v5 v6 v7 v8 v9:Value} (h:(cs.drop o).take 10=[v0,v1,v2,v3,v4,v5,v6,v7,v8,v9]):Tk 10 o cs [v0,v1,v2,v3,v4,v5,v6,v7,v8,v9]:=⟨h,rfl⟩
theorem rG {v v0 v1 v2 v3 v4 v5 v6 v7 v8 v9:Value} (h:v.cells.toList=[v0,v1,v2,v3,v4,v5,v6,v7,v8,v9]):Cl 10 v [v0,v1,v2,v3,v4,v5,v6,v7,v8,v9]:=⟨h,rfl⟩
theorem P4 {o:Nat} {cs:bv} {v0 v1 v2 v3 v4 v5 v6 v7 v8 v9 v10:Value} (h:(cs.drop o).take 11=[v0,v1,v2,v3,v4,v5,v6,v7,v8,v9,v10]):Tk 11 o cs [v0,v1,v2,v3,v4,v5,v6,v7,v8,v9,v10]:=⟨h,rfl⟩
theorem PK {v v0 v1 v2 v3 v4 v5 v6 v7 v8 v9 v10:Value} (h:v.cells.toList=[v0,v1,v2,v3,v4,v5,v6,v7,v8,v9,v10]):Cl 11 v [v0,v1,v2,v3,v4,v5,v6,v7,v8,v9,v10]:=⟨h,rfl⟩
theorem P5 {o:Nat} {cs:bv} {v0 v1 v2 v3 v4 v5 v6 v7 v8 v9 v10 v11:Value} (h:(cs.drop o).take 12=[v0,v1,v2,v3,v4,v5,v6,v7,v8,v9,v10,v11]):Tk 12 o cs [v0,v1,v2,v3,v4,v5,v6,v7,v8,v9,v10,v11]:=⟨h,rfl⟩
theorem tN {v v0 v1 v2 v3 v4 v5 v6 v7 v8 v9 v10 v11:Value} (h:v.cells.toList=[v0,v1,v2,v3,v4,v5,v6,v7,v8,v9,v10,v11]):Cl 12 v [v0,v1,v2,v3,v4,v5,v6,v7,v8,v9,v10,v11]:=⟨h,rfl⟩
theorem Qx {Z o:Nat} {cs us:bv} (h:Tk Z o cs us:=by first | ((with_reducible apply Q9); exact rfl) | ((with_reducible apply Ra); exact rfl) | ((with_reducible apply Rb); exact rfl) | ((with_reducible apply Rc); exact rfl) | ((with_reducible apply Rd); exact rfl) | ((with_reducible apply Rf); exact rfl) | ((with_reducible apply Rg); exact rfl) | ((with_reducible apply Rh); exact rfl) | ((with_reducible apply Ri); exact rfl) | ((with_reducible apply P3); exact rfl) | ((with_reducible apply P4); exact rfl) | ((with_reducible apply P5); exact rfl)):Tk Z o cs us:=h
theorem PR {W:World} {M T:Nat→Prop} {n:Nat} {G:List (Nat×Value)} {D:List db} {F:List cA} {v:Value} {a:Act} {w:World} {e:TypeId} {sz:Nat} {cl:bv} (hS:St W M T n G D F a w) (h:∃ i:Nat,D[i]? = some (.own v e sz cl)):v.oneCell'=true:=gv (hS.own _ (a6 h.choose_spec)).1
theorem PS {W:World} {M T:Nat→Prop} {n:Nat} {G:List (Nat×Value)} {D:List db} {F:List cA} {v:Value} {a:Act} {w:World} {α:Type} {R:aY α} {xs:List α} (hS:St W M T n G D F a w) (h:∃ i:Nat,F[i]? = some (aR R v xs)):v.oneCell'=true:=aE.one (hS.get h.choose h.choose_spec:aE R _ _ _ _)
theorem Ou {v:Value} (h:v.oneCell'=true:=by first | exact rfl | exact PR hS fR | exact PS hS fD):v.oneCell'=true:=h
theorem Ni {Z:Nat} {v:Value} {us:bv} (h:Cl Z v us:=by first | ((with_reducible apply Qm); exact rfl) | ((with_reducible apply wo); exact rfl) | ((with_reducible apply qE); exact rfl) | ((with_reducible apply sI); exact rfl) | ((with_reducible apply wq); exact rfl) | ((with_reducible apply C1); exact rfl) | ((with_reducible apply xR); exact rfl) | ((with_reducible apply xK); exact rfl) | ((with_reducible apply L0); exact rfl) | ((with_reducible apply rG); exact rfl) | ((with_reducible apply PK); exact rfl) | ((with_reducible apply tN); exact rfl) | ((with_reducible apply Qm); exact ft Ou)):Cl Z v us:=h
theorem Ot {us:bv} (h:∀ u∈us,u.oneCell'=true:=by repeat (first | exact on | refine oc Ou ?_)):∀ u∈us,u.oneCell'=true:=h
def SQ (P:Program) (z:Code) (Q:Exit→Act→World→Prop):Exit→Act→World→Prop:=Exit.then (z.wp P Q) Q
section
variable {P:Program} {W:World} {M T:Nat→Prop} {n:Nat} {F:List cA}
def Yv (P:Program) (W:World) (M T:Nat→Prop) (n:Nat) (G:List (Nat×Value)) (D:List db) (F:List cA) (E:Nat→Prop) (op:Op) (v:Value):Prop :=
 ∀ a w d ty pos af g,St W M T n G D F a w→Ye P ⟨d,op,ty,pos,af,g⟩ a E w v
section
variable {G:List (Nat×Value)} {D:List db} {E:Nat→Prop} {x y z:Operand} {v:Value} {t t' s:TypeId}
theorem Yv.mv (hx:ev G x=some v):Yv P W M T n G D F E (.move x) v:=fun _ _ _ _ _ _ _ hS=>Ja hS hx
theorem Yv.as (hx:ev G x=some v):Yv P W M T n G D F E (.assign x) v:=fun _ _ _ _ _ _ _ hS=>D7 hS hx
theorem Yv.bi {op:BinOp} {k:IntKind} {p q:Int} (hx:ev G x=some (.int k p)) (hy:ev G y=some (.int k q)) (hv:MJ op k p q=some v):Yv P W M T n G D F E (.binOp op t x y t') v:=fun _ _ _ _ _ _ _ hS=>D9 hS hx hy hv
theorem Yv.bs {op:BinOp} {p q:ByteArray} (hx:ev G x=some (.string p)) (hy:ev G y=some (.string q)) (hv:M1 op p q=some v):Yv P W M T n G D F E (.binOp op t x y t') v:=fun _ _ _ _ _ _ _ hS=>OW hS hx hy hv
theorem Yv.no {b:Bool} (hx:ev G x=some (.bool b)):Yv P W M T n G D F E (.unOp .not t x) (.bool !b):=fun _ _ _ _ _ _ _ hS=>OT hS hx
theorem Yv.ng {k:IntKind} {p:Int} (hx:ev G x=some (.int k p)):Yv P W M T n G D F E (.unOp .neg t x) (.int k (k.wrap (0-p))):=fun _ _ _ _ _ _ _ hS=>OR hS hx
theorem Yv.ex {i:Nat} {vs:Array Value} (hx:ev G x=some (.tuple vs)) (hv:vs[i]? = some v):Yv P W M T n G D F E (.extract x i) v:=fun _ _ _ _ _ _ _ hS=>Qc hS hx hv
theorem Yv.nl {p:Addr} (hx:ev G x=some (.pointer (some p))):Yv P W M T n G D F E (.nilCheck x) (.pointer (some p)):=fun _ _ _ _ _ _ _ hS=>OS hS hx
theorem Yv.fl {f k b o:Nat} [c:pY P s f k] (hx:ev G x=some (.pointer (some ⟨b,o,none⟩))):Yv P W M T n G D F E (.fieldAddr s x f) (.pointer (some ⟨b,o+k,none⟩)):=fun _ _ _ _ _ _ _ hS=>D8 hS hx c.h
theorem Yv.pt {b:Bool} (hz:ev G z=some (.bool b)) (hb:b=true) (hx:ev G x=some v):Yv P W M T n G D F E (.pick z x y) v:=fun _ _ _ _ _ _ _ hS=>KE hS hz hb hx
theorem Yv.pf {b:Bool} (hz:ev G z=some (.bool b)) (hb:b=false) (hy:ev G y=some v):Yv P W M T n G D F E (.pick z x y) v:=fun _ _ _ _ _ _ _ hS=>KD hS hz hb hy
theorem Yv.cv {k k' ks:IntKind} {p:Int} [hs:KM P s (.int ks)] [ht:KM P t (.int k')] (hx:ev G x=some (.int k p)):Yv P W M T n G D F E (.convert s t x) (.int k' (k'.wrap p)):=fun _ _ _ _ _ _ _ hS=>Na hS hx hs.h ht.h
theorem Yv.ls {p:ByteArray} [ht:KM P t .string] (hx:ev G x=some (.string p)):Yv P W M T n G D F E (.call { callee:=.builtin .len,args:=#[x],argTypes:=#[t] }) (.int .i64 p.size):=fun _ _ _ _ _ _ _ hS=>Nb hS ht.h hx
theorem Yv.ll {e:TypeId} {α:Type} {R:aY α} {xs:List α} [ht:Fj P t e] (hx:ev G x=some v) (hF:∃ i:Nat,F[i]? = some (aR R v xs)):Yv P W M T n G D F E (.call { callee:=.builtin .len,args:=#[x],argTypes:=#[t] }) (.int .i64 xs.length):=fun _ _ _ _ _ _ _ hS=>Lq hS ht.h hx hF.choose hF.choose_spec
theorem Yv.lo {e e':TypeId} {cl:bv} {α:Type} {R:aY α} {xs:List α} [ht:Fj P t e] (hx:ev G x=some v) (hD:∃ j:Nat,D[j]? = some (.own v e' R.size cl)) (hF:∃ i:Nat,F[i]? = some (an R cl xs)):Yv P W M T n G D F E (.call { callee:=.builtin .len,args:=#[x],argTypes:=#[t] }) (.int .i64 xs.length):=fun _ _ _ _ _ _ _ hS=>I8 hS ht.h hx hD.choose hD.choose_spec hF.choose hF.choose_spec
theorem Yv.la {Z b o:Nat} {cs us:bv} {bt:TypeId} [c:uC P t true Z] (hx:ev G x=some (.pointer (some ⟨b,o,none⟩))) (hD:∃ i:Nat,D[i]? = some (.box b cs bt)) (hE:¬ E b) (hu:Tk Z o cs us):Yv P W M T n G D F E (.load t x) (.agg us.toArray):=fun _ _ _ _ _ _ _ hS=>eU hS hx c.h hD.choose hD.choose_spec hE hu.1 hu.2 (fun h=>by cases h)
theorem Yv.l1 {b o:Nat} {cs:bv} {bt:TypeId} [c:uC P t false 1] (hx:ev G x=some (.pointer (some ⟨b,o,none⟩))) (hD:∃ i:Nat,D[i]? = some (.box b cs bt)) (hE:¬ E b) (hu:(cs.drop o).take 1=[v]):Yv P W M T n G D F E (.load t x) v:=fun _ _ _ _ _ _ _ hS=>eU (us:=[v]) hS hx c.h hD.choose hD.choose_spec hE hu rfl (fun _=>rfl)
theorem Yv.ca {Z b o k p:Nat} {cs us:bv} [c:uC P t true Z] (hx:ev G x=some (.pointer (some ⟨b,p,none⟩))) (hF:∃ i:Nat,F[i]? = some (ln b o cs)) (hp:o+k=p) (hE:∀ a w,St W M T n G D F a w→∀ j,E j→dT T D j∨w.heap.size≤j) (hu:Tk Z k cs us):Yv P W M T n G D F E (.load t x) (.agg us.toArray):=fun a w _ _ _ _ _ hS=>by
 subst hp;exact xD hS c.h hF.choose hF.choose_spec hx (hE a w hS) hu.1 hu.2 (fun h=>by cases h)
theorem Yv.c1 {b o k p:Nat} {cs:bv} [c:uC P t false 1] (hx:ev G x=some (.pointer (some ⟨b,p,none⟩))) (hF:∃ i:Nat,F[i]? = some (ln b o cs)) (hp:o+k=p) (hE:∀ a w,St W M T n G D F a w→∀ j,E j→dT T D j∨w.heap.size≤j) (hu:(cs.drop k).take 1=[v]):Yv P W M T n G D F E (.load t x) v:=fun a w _ _ _ _ _ hS=>by
 subst hp;exact xD (us:=[v]) hS c.h hF.choose hF.choose_spec hx (hE a w hS) hu rfl (fun _=>rfl)
theorem Qn {ops:Array Oper} {mods:List (Nat×Tn)} {ls:Array Bool} {i k:Nat} (h:rem ops mods ls i=[]:=by first | exact rfl | kernel_rfl):¬ Eo (rem ops mods ls i) k:=by rw [h]; exact bP
theorem Qo {ops:Array Oper} {mods:List (Nat×Tn)} {ls:Array Bool} {i:Nat} (h:rem ops mods ls i=[]:=by first | exact rfl | kernel_rfl):∀ a w,St W M T n G D F a w→∀ j,Eo (rem ops mods ls i) j→dT T D j∨w.heap.size≤j:=by rw [h]; exact fun _ _ _=>EH
theorem yA {op:Op} (h:Yv P W M T n G D F E op v:=by
 first
  | ((with_reducible apply Yv.mv); exact rfl)
  | ((with_reducible apply Yv.bi); exact rfl; exact rfl; exact rfl)
  | ((with_reducible apply Yv.as); exact rfl)
  | ((with_reducible apply Yv.fl); exact rfl)
  | ((with_reducible apply Yv.l1); exact rfl; exact fR; (first | exact id | exact Qn); exact rfl)
  | ((with_reducible apply Yv.la); exact rfl; exact fR; (first | exact id | exact Qn); exact Qx)
  | ((with_reducible apply Yv.c1); exact rfl; exact fD; (first | exact sh _ | exact rfl | exact (wc _ _ _).symm); (first | exact (fun _ _ _ _ h=>h.elim) | exact Qo); exact rfl)
  | ((with_reducible apply Yv.ca); exact rfl; exact fD; (first | exact sh _ | exact rfl | exact (wc _ _ _).symm); (first | exact (fun _ _ _ _ h=>h.elim) | exact Qo); exact Qx)
  | ((with_reducible apply Yv.pt); exact rfl; exact kn; exact rfl)
  | ((with_reducible apply Yv.pf); exact rfl; exact kn; exact rfl)
  | ((with_reducible apply Yv.ex); exact rfl; exact rfl)
  | ((with_reducible apply Yv.no); exact rfl)
  | ((with_reducible apply Yv.nl); exact rfl)
  | ((with_reducible apply Yv.bs); exact rfl; exact rfl; exact rfl)
  | ((with_reducible apply Yv.ll); exact rfl; exact fD)
  | ((with_reducible apply Yv.lo); exact rfl; exact fR; exact fD)
  | ((with_reducible apply Yv.ls); exact rfl)
  | ((with_reducible apply Yv.cv); exact rfl)
  | ((with_reducible apply Yv.ng); exact rfl)):Yv P W M T n G D F E op v:=h
end
def Rn (W:World) (M T:Nat→Prop) (n:Nat) (F:List cA) (b:Bool) (G:List (Nat×Value)) (D:List db) (X:Act→World→Prop) (G':List (Nat×Value)) (D':List db) (X':Act→World→Prop):Prop :=
 ∀ w,(∀ a w',(b=true→w'=w)→St W M T n G' D' F a w'→X' a w')→∀ a,St W M T n G D F a w→X a w
section
variable {b:Bool} {G G':List (Nat×Value)} {D D':List db} {X X' K:Act→World→Prop} {Q:Exit→Act→World→Prop} {ops:Array Oper} {l:List Oper} {op:Op} {v:Value} {d j t:Nat} {ty tt:TypeId} {pos:String} {af:Array Edge} {want c:Bool} {x y z:Code} {id:Nat} {u:Operand}
theorem Rn.fin:Rn W M T n F b G D X G D X:=fun w k a hS=>k a w (fun _=>rfl) hS
theorem Rn.yv (h:Yv P W M T n G D F No op v) (hn:Nat.blt d n=true) (k:Rn W M T n F b ((d,v)::G) D (wpList P ops Q l) G' D' X'):Rn W M T n F b G D (wpList P ops Q (⟨some d,op,ty,pos,af,none⟩::l)) G' D' X' :=
 fun w K a hS=>wy hS (h a w _ _ _ _ _ hS) rfl rfl hn fun a hS=>k w K a hS
def Nl (u:Value) (want:Bool) (A B:Prop):Prop:=(∃ c,u = .bool c∧c=want∧A)∨(((∃ c,u = .bool c∧c = !want)∨u=undef)∧B)
theorem PO {A B:Prop} (h:c=want) (k:A):Nl (.bool c) want A B:=.inl ⟨c,rfl,h,k⟩
theorem PN {A B:Prop} (h:c = !want) (k:B):Nl (.bool c) want A B:=.inr ⟨.inl ⟨c,rfl,h⟩,k⟩
theorem PP {A B:Prop} (k:B):Nl undef want A B:=.inr ⟨.inr rfl,k⟩
theorem Fc {o:Oper} {g:Option (Nat×Bool)} {a:Act} {w:World} {rest:List Oper} (h:wpList P ops Q ({ o with guard:=none } :: rest) a w) (hw:Region.wanted { o with guard:=g } (yielded ops a.tmps)=true):wpList P ops Q ({ o with guard:=g } :: rest) a w:=by
 unfold wpList at h ⊢;rw [if_pos hw];rw [if_pos (by simp [Region.wanted])] at h;exact h
theorem Rn.gd {uv:Value} (hj:(ops[j]?).bind (·.dst)=some t) (ht:lk G t=some uv) (hn:Nat.blt d n=true)
  (k:Nl uv want (Rn W M T n F b G D (wpList P ops Q (⟨some d,op,ty,pos,af,none⟩::l)) G' D' X') (Rn W M T n F b ((d,undef)::G) D (wpList P ops Q l) G' D' X')):Rn W M T n F b G D (wpList P ops Q (⟨some d,op,ty,pos,af,some (j,want)⟩::l)) G' D' X':=by
 intro w K a hS;rcases k with⟨c,h1,h2,k⟩|⟨h1 | h1,k⟩
 ·subst h1;exact Fc (o:=⟨some d,op,ty,pos,af,none⟩) (k w K a hS) (by rw [rB hS rfl hj ht,h2]; simp)
 ·obtain⟨c,h1,h2⟩:=h1;subst h1;exact wn hS rfl hj ht h2 rfl hn fun a hS=>k w K a hS
 ·subst h1;exact Rj hS rfl hj ht rfl hn fun a hS=>k w K a hS
theorem Rn.st {ag:Bool} {Z bb o:Nat} {cs us:bv} {bt:TypeId} {xx yy:Operand} [ct:uC P tt ag Z] {i:Nat} (hx:ev G xx=some (.pointer (some ⟨bb,o,none⟩))) (hi:D[i]? = some (.box bb cs bt)) (hy:ev G yy=some v)
  (h1:∀ a w,St W M T n G D F a w→Cl Z v us) (h2:∀ a w,St W M T n G D F a w→∀ u∈us,u.oneCell'=true) (hl:Nat.ble (o+Z) cs.length=true) (k:Rn W M T n F false G (D.set i (.box bb (mZ cs o us) bt)) (wpList P ops Q l) G' D' X'):Rn W M T n F false G D (wpList P ops Q (⟨none,.store tt xx yy,ty,pos,af,none⟩::l)) G' D' X' :=
 fun w K a hS=>wl rfl (tR hS hx hy (h1 a w hS).1 ct.h i hi (h1 a w hS).2 hl (h2 a w hS) fun w hk hS=>k w (fun a w' _ hS=>K a w' (fun h=>by cases h) hS) _ hS)
theorem aD {a:Act} {w:World} (h:x.wp P (SQ P z Q) a w):(Code.seq x z).wp P Q a w:=wp_seq h
theorem Rn.rq (hg:(l.all fun o=>o.guard.isNone)=true) (k:Rn W M T n F b G D (wpList P l.toArray (SQ P z Q) l) G' D' X'):Rn W M T n F b G D (Code.wp P (Code.seq (Code.region id l.toArray false) z) Q) G' D' X':=fun w K a hS=>wp_seq (wp_region_lit (k w K a hS))
theorem iY {l:List Oper} {a:Act} {w:World} (h:wpList P l.toArray (SQ P z Q) l a w):(Code.seq (Code.region id l.toArray false) z).wp P Q a w:=wp_seq (wp_region_lit h)
theorem Rn.rl (k:Rn W M T n F b G D (wpList P l.toArray Q l) G' D' X'):Rn W M T n F b G D (Code.wp P (Code.region id l.toArray false) Q) G' D' X':=fun w K a hS=>wp_region_lit (k w K a hS)
theorem Rn.rz (k:Rn W M T n F b G D (Q .normal) G' D' X'):Rn W M T n F b G D (wpList P ops Q []) G' D' X':=fun w K a hS=>wpList_nil (k w K a hS)
theorem Rn.sq (k:Rn W M T n F b G D (z.wp P Q) G' D' X'):Rn W M T n F b G D (SQ P z Q .normal) G' D' X':=k
theorem Rn.th (k:Rn W M T n F b G D (K) G' D' X'):Rn W M T n F b G D (Exit.then K Q .normal) G' D' X':=k
theorem Rn.ib (k:Rn W M T n F b G D (Q .normal) G' D' X'):Rn W M T n F b G D (Exit.inBlock id Q .normal) G' D' X':=k
theorem Rn.sk (k:Rn W M T n F b G D (Q .normal) G' D' X'):Rn W M T n F b G D (Code.wp P .skip Q) G' D' X':=fun w K a hS=>wp_skip (k w K a hS)
theorem Rn.bl (k:Rn W M T n F b G D (x.wp P (Exit.inBlock id Q)) G' D' X'):Rn W M T n F b G D (Code.wp P (.block id x) Q) G' D' X':=fun w K a hS=>wp_block (k w K a hS)
theorem Rn.ct (hu:ev G u=some (.bool c)) (hc:c=true) (k:Rn W M T n F b G D (x.wp P Q) G' D' X'):Rn W M T n F b G D (Code.wp P (.cond u x y) Q) G' D' X':=fun w K a hS=>Qi hS hu hc (k w K a hS)
theorem Rn.cf (hu:ev G u=some (.bool c)) (hc:c=false) (k:Rn W M T n F b G D (y.wp P Q) G' D' X'):Rn W M T n F b G D (Code.wp P (.cond u x y) Q) G' D' X':=fun w K a hS=>O8 hS hu hc (k w K a hS)
theorem Rn.xt (k:Rn W M T n F b G D (Q (.exit j)) G' D' X'):Rn W M T n F b G D (Code.wp P (.exit j) Q) G' D' X':=fun w K a hS=>wp_exit (k w K a hS)
theorem Rn.rt (k:Rn W M T n F b G D (Q .ret) G' D' X'):Rn W M T n F b G D (Code.wp P .ret Q) G' D' X':=fun w K a hS=>wp_ret (k w K a hS)
theorem Rn.sqr (k:Rn W M T n F b G D (Q .ret) G' D' X'):Rn W M T n F b G D (SQ P z Q .ret) G' D' X':=k
theorem Rn.sqe (k:Rn W M T n F b G D (Q (.exit j)) G' D' X'):Rn W M T n F b G D (SQ P z Q (.exit j)) G' D' X':=k
theorem Rn.thr (k:Rn W M T n F b G D (Q .ret) G' D' X'):Rn W M T n F b G D (Exit.then K Q .ret) G' D' X':=k
theorem Rn.the (k:Rn W M T n F b G D (Q (.exit j)) G' D' X'):Rn W M T n F b G D (Exit.then K Q (.exit j)) G' D' X':=k
theorem Rn.ibr (k:Rn W M T n F b G D (Q .ret) G' D' X'):Rn W M T n F b G D (Exit.inBlock id Q .ret) G' D' X':=k
theorem Rn.ibt (h:Nat.beq j id=true) (k:Rn W M T n F b G D (Q .normal) G' D' X'):Rn W M T n F b G D (Exit.inBlock id Q (.exit j)) G' D' X':=fun w K a hS=>by
 have h2:=k w K a hS;simp only [Exit.inBlock];rw [if_pos (AP h)]; exact h2
theorem Rn.ibf (h:Nat.beq j id=false) (k:Rn W M T n F b G D (Q (.exit j)) G' D' X'):Rn W M T n F b G D (Exit.inBlock id Q (.exit j)) G' D' X':=fun w K a hS=>by
 have h2:=k w K a hS;simp only [Exit.inBlock];rw [if_neg (fun e=>by rw [e] at h; simp at h)]; exact h2
theorem QD (h:Rn W M T n F b G D X G' D' X':=by
 repeat (first
 | ((with_reducible apply Rn.yv); exact yA; exact rfl)
 | ((with_reducible apply Rn.gd); exact rfl; exact rfl; exact rfl; (first | apply PP | (apply PO; exact kn; (first | ((with_reducible apply Rn.yv); exact yA; exact rfl) | ((with_reducible apply Rn.st); exact rfl; exact fI; exact rfl; exact (fun a w hS=>Ni); exact (fun a w hS=>Ot); exact rfl))) | (apply PN; exact kn)))
 | ((with_reducible apply Rn.st); exact rfl; exact fI; exact rfl; exact (fun a w hS=>Ni); exact (fun a w hS=>Ot); exact rfl)
 | (with_reducible apply Rn.rz)
 | (with_reducible apply Rn.sq)
 | (with_reducible apply Rn.th)
 | (with_reducible apply Rn.ib)
 | (with_reducible apply Rn.sk)
 | ((with_reducible apply Rn.ct); exact rfl; exact kn)
 | ((with_reducible apply Rn.cf); exact rfl; exact kn))
 exact Rn.fin):Rn W M T n F b G D X G' D' X':=h
theorem Qg (h:Rn W M T n F b G D X G' D' X':=by
 repeat (first
 | ((with_reducible apply Rn.yv); exact yA; exact rfl)
 | ((with_reducible apply Rn.gd); exact rfl; exact rfl; exact rfl; (first | apply PP | (apply PO; exact kn; (first | ((with_reducible apply Rn.yv); exact yA; exact rfl) | ((with_reducible apply Rn.st); exact rfl; exact fI; exact rfl; exact (fun a w hS=>Ni); exact (fun a w hS=>Ot); exact rfl))) | (apply PN; exact kn)))
 | ((with_reducible apply Rn.st); exact rfl; exact fI; exact rfl; exact (fun a w hS=>Ni); exact (fun a w hS=>Ot); exact rfl)
 | (with_reducible apply Rn.rz)
 | ((with_reducible apply Rn.rq); exact rfl)
 | (with_reducible apply Rn.sq)
 | (with_reducible apply Rn.th)
 | (with_reducible apply Rn.ib)
 | (with_reducible apply Rn.sk)
 | (with_reducible apply Rn.bl)
 | ((with_reducible apply Rn.ct); exact rfl; exact kn)
 | ((with_reducible apply Rn.cf); exact rfl; exact kn)
 | (with_reducible apply Rn.rl)
 | (with_reducible apply Rn.rt)
 | (with_reducible apply Rn.xt)
 | (with_reducible apply Rn.sqr)
 | (with_reducible apply Rn.thr)
 | (with_reducible apply Rn.ibr)
 | (with_reducible apply Rn.sqe)
 | (with_reducible apply Rn.the)
 | ((with_reducible apply Rn.ibt); exact rfl)
 | ((with_reducible apply Rn.ibf); exact rfl))
 exact Rn.fin):Rn W M T n F b G D X G' D' X':=h
def Qr (ops:Array Oper) (listed:Array Bool) (i:Nat):Bool:=Region.free .any ops listed i&&(Region.ready .any ops listed).contains i
def Re (P:Program) (ops:Array Oper) (Q:Exit→Act→World→Prop) (mods:List (Nat×Tn)) (W:World) (M T:Nat→Prop) (n:Nat) (D:List db) (F:List cA) (is:List Nat) (fuel:Nat) (ls:Array Bool) (G:List (Nat×Value)) (fuel':Nat) (ls':Array Bool) (G':List (Nat×Value)):Prop :=
 ∀ a w,Region.noSelect ops=true→Qp Q→St W M T n G D F a w→(∀ a,St W M T n G' D F a w→tJ P ops Q mods fuel' ls' a w)→tJ P ops Q mods fuel ls a w
section
variable {mods:List (Nat×Tn)} {fuel fuel' i:Nat} {ls ls':Array Bool} {is:List Nat}
theorem Re.en:Re P ops Q mods W M T n D F [] fuel ls G fuel ls G:=fun a w _ _ hS k=>k a hS
theorem Re.va {f:Nat} (hfu:fuel=f+1) (hi:ops[i]? = some ⟨some d,op,ty,pos,af,none⟩) (h:Yv P W M T n G D F (Eo (rem ops mods ls i)) op v) (hn:Nat.blt d n=true) (hr:Qr ops ls i=true) (k:Re P ops Q mods W M T n D F is f (ls.setIfInBounds i true) ((d,v)::G) fuel' ls' G'):Re P ops Q mods W M T n D F (i::is) fuel ls G fuel' ls' G' :=
 fun a w hs hQ hS K=>hfu▸dy i hi hs (Bool.and_eq_true_iff.1 hr).1 (Bool.and_eq_true_iff.1 hr).2 rfl hQ hS (h a w _ _ _ _ _ hS) rfl rfl hn fun a hS=>k a w hs hQ hS K
theorem Re.gu {uv:Value} {f:Nat} (hfu:fuel=f+1) (hi:ops[i]? = some ⟨some d,op,ty,pos,af,some (j,want)⟩) (hj:(ops[j]?).bind (·.dst)=some t) (ht:lk G t=some uv) (hn:Nat.blt d n=true) (hr:Qr ops ls i=true)
  (k:Nl uv want (∃ v,Yv P W M T n G D F (Eo (rem ops mods ls i)) op v∧Re P ops Q mods W M T n D F is f (ls.setIfInBounds i true) ((d,v)::G) fuel' ls' G') (Re P ops Q mods W M T n D F is f (ls.setIfInBounds i true) ((d,undef)::G) fuel' ls' G')):Re P ops Q mods W M T n D F (i::is) fuel ls G fuel' ls' G':=by
 intro a w hs hQ hS K;subst hfu;have h1:=Bool.and_eq_true_iff.1 hr;rcases k with⟨c,e1,e2,v,h,k⟩|⟨e1 | e1,k⟩
 ·subst e1;exact y7 i hi hs h1.1 h1.2 rfl hQ hS (h a w _ _ _ _ _ hS) rfl hj ht e2 rfl hn fun a hS=>k a w hs hQ hS K
 ·obtain⟨c,e1,e2⟩:=e1;subst e1;exact QF i hi hs h1.1 h1.2 hQ hS rfl hj ht e2 rfl hn fun a hS=>k a w hs hQ hS K
 ·subst e1;exact PL i hi hs h1.1 h1.2 hQ hS rfl hj ht rfl hn fun a hS=>k a w hs hQ hS K
theorem gE (is:List Nat) {a:Act} {w:World} (hS:St W M T n G D F a w) (k:∀ a,St W M T n G' D F a w→tJ P ops Q mods fuel' ls' a w) (h:Re P ops Q mods W M T n D F is fuel ls G fuel' ls' G':=by
 repeat (first
 | ((with_reducible apply Re.va); exact rfl; exact rfl; exact yA; exact rfl; kernel_rfl)
 | ((with_reducible apply Re.gu); exact rfl; exact rfl; exact rfl; exact rfl; exact rfl; kernel_rfl; (first | apply PP | (apply PO; exact kn; refine⟨_,yA,?_⟩) | (apply PN; exact kn))))
 exact Re.en) (hs:Region.noSelect ops=true:=by kernel_rfl) (hQ:Qp Q:=by assumption):tJ P ops Q mods fuel ls a w:=h a w hs hQ hS k
end
def AZ (F:List cA):List Nat→List cA→Prop
 | _,[]=>True
 | [],_::_=>False
 | j::js,f::F'=>F[j]? = some f∧AZ F js F'
theorem AZ.to {F:List cA}:∀ {js:List Nat} {F':List cA},AZ F js F'→Er F F'
 | _,[],_=>trivial
 | [],_::_,h=>h.elim
 | j::js,f::F',h=>⟨⟨j,h.1⟩,h.2.to⟩
theorem Q8 {F:List cA}:AZ F [] []:=trivial
theorem Q7 {F F':List cA} {j:Nat} {js:List Nat} {f:cA} (h:F[j]? = some f) (k:AZ F js F'):AZ F (j::js) (f::F'):=⟨h,k⟩
theorem Qv {F F':List cA} {js:List Nat} (h:AZ F js F':=by repeat (first | exact Q8 | (apply Q7; exact rfl))):AZ F js F':=h
theorem Qu:n9 D [] []:=trivial
theorem Qt {i:Nat} {is:List Nat} {r:db} (h:D[i]? = some r) (k:n9 D is D'):n9 D (i::is) (r::D'):=⟨h,k⟩
theorem O0 {is:List Nat} (h:n9 D is D':=by repeat (first | exact Qu | (apply Qt; exact rfl))):n9 D is D':=h
theorem n9.app:∀ {is js:List Nat} {D0 D1:List db},n9 D is D0→n9 D js D1→n9 D (is++js) (D0++D1)
 | [],_,[],_,_,k=>k
 | [],_,_::_,_,h,_=>h.elim
 | _::_,_,[],_,h,_=>h.elim
 | _::_,_,_::_,_,h,k=>⟨h.1,n9.app h.2 k⟩
section
variable {F':List cA} {a:Act} {w:World} {D0 D1:List db} {α β:Type} {R:aY α} {R2:aY β} {xs:List α} {ys:List β} {vv v2:Value} {cl wo:bv} {e e2:TypeId}
theorem St.mt (h:St W M T n G D F a w) (is js:List Nat) (hG:KL G G':=by repeat (first | exact trivial | refine⟨rfl,?_⟩)) (hD:n9 D is D':=by exact O0) (hF:AZ F js F':=by exact Qv) (hn:is.Nodup:=by decide):St W M T n G' D' F' a w:=h.meet is hn hG hD hF.to
theorem St.sl (h:St W M T n G D F a w) (is js:List Nat) (hD:n9 D is D':=by exact O0) (hF:AZ F js F':=by exact Qv) (hn:is.Nodup:=by decide):St W M T n [] D' F' a w:=h.meet is hn trivial hD hF.to
theorem St.re (h:St W M T n G D F a w) (is js:List Nat) (h0:n9 D is D0:=by exact O0) (h1:n9 D js D1:=by exact O0) (hn:(is++js).Nodup:=by decide):St W M T n G (D0++D1) F a w:=h.reD (is++js) hn (h0.app h1)
theorem St.fS (h:St W M T n G D F a w) (k:aE R (dT T D) w vv xs):St W M T n G D (aR R vv xs::F) a w:=h.fact (aR R vv xs) k
theorem St.fR (h:St W M T n G D F a w) (k:aA R (dT T D) w cl xs):St W M T n G D (an R cl xs::F) a w:=h.fact (an R cl xs) k
theorem St.fM {κ ν:Type} {RK:aY κ} {ak:Bool} {RV:aY ν} {av:Bool} {es:Array MapEntry} {ms:List (κ×ν)} (h:St W M T n G D F a w) (k:bV RK ak RV av (dT T D) w es ms):St W M T n G D (pa RK ak RV av es ms::F) a w:=h.fact (pa RK ak RV av es ms) k
theorem bY {w':World} (hA:∀ rs:List db,(∀ r∈rs,r.ok w'∧∀ k,r.dom k→w.heap.size≤k)→(rs.Pairwise fun r s=>∀ k,r.dom k→¬ s.dom k)→St W M T n G (rs++D) F a w'):St W M T n G D F a w':=hA [] (fun r hr=>by cases hr) tD
theorem qD {w':World} (hA:∀ rs:List db,(∀ r∈rs,r.ok w'∧∀ k,r.dom k→w.heap.size≤k)→(rs.Pairwise fun r s=>∀ k,r.dom k→¬ s.dom k)→St W M T n G (rs++D) F a w') (h:gg R (dT T D) w w' [.own vv e R.size cl] e vv cl xs) (h0:0<R.size:=by decide):St W M T n G ([.own vv e R.size cl]++D) (an R cl xs::F) a w' :=
 (hA [.own vv e R.size cl] (ei ⟨h.1,h0⟩ h.2.1) (sP _)).fact (an R cl xs) (h.2.2.keep (au _ _) (iB _))
theorem uw {w':World} (hA:∀ rs:List db,(∀ r∈rs,r.ok w'∧∀ k,r.dom k→w.heap.size≤k)→(rs.Pairwise fun r s=>∀ k,r.dom k→¬ s.dom k)→St W M T n G (rs++D) F a w') (h:gg R (dT T D) w w' [.own vv e R.size cl,.own v2 e2 R2.size wo] e vv cl xs) (k:gg R2 (dT T D) w w' [.own vv e R.size cl,.own v2 e2 R2.size wo] e2 v2 wo ys) (hp:∀ k,vv.ownBlock=some k→v2.ownBlock≠some k) (h0:0<R.size:=by decide) (k0:0<R2.size:=by decide):St W M T n G ([.own vv e R.size cl,.own v2 e2 R2.size wo]++D) (an R2 wo ys::an R cl xs::F) a w' :=
 ((hA [.own vv e R.size cl,.own v2 e2 R2.size wo] (KO ⟨h.1,h0⟩ h.2.1 ⟨k.1,k0⟩ k.2.1) (Qs hp)).fact (an R cl xs) (h.2.2.keep (au _ _) (iB _))).fact (an R2 wo ys) (k.2.2.keep (au _ _) (iB _))
theorem Q6 {is:List Nat} (h:n9 D is D':=by repeat (first | exact Qu | (apply Qt; exact fI))):n9 D is D':=h
theorem St.mtS {is:List Nat} (h:St W M T n G D F a w) (hG:KL G G':=by repeat (first | exact trivial | refine⟨rfl,?_⟩)) (hD:n9 D is D':=by exact Q6) (hF:Er F F':=by repeat (first | exact trivial | refine⟨fD,?_⟩)) (hn:is.Nodup:=by decide):St W M T n G' D' F' a w:=h.meet is hn hG hD hF
end
theorem lo {S R Y:Type} {u r:R} {f:Fl S R} {k:R→Option Y} {y:Y} (hM:some (Fl.out u)=some f) (hf:∀ u,f = .out u→u=r) (hk:k r=some y):k u=some y:=by
 rw [hf u (fq hM).symm]; exact hk
theorem Oq {S R Y S2:Type} {s:S2} {r:Fl S2 R} {f:Fl S (Fl S2 R)} {p:S2→Option Y} {q:R→Option Y} {y:Y} (hM:some (Fl.out (Fl.go s))=some f) (hf:∀ u,f = .out u→u=r) (hk:Fl.el r p q=some y):p s=some y:=by
 have h:=hf _ (fq hM).symm;subst h; exact hk
theorem Lh {S R Y S2:Type} {s:R} {r:Fl S2 R} {f:Fl S (Fl S2 R)} {p:S2→Option Y} {q:R→Option Y} {y:Y} (hM:some (Fl.out (Fl.out s))=some f) (hf:∀ u,f = .out u→u=r) (hk:Fl.el r p q=some y):q s=some y:=by
 have h:=hf _ (fq hM).symm;subst h; exact hk
theorem cd {α:Type} {b:Bool} {x y r:α} (h:cond b x y=r):(b=true∧x=r)∨(b=false∧y=r):=by cases b <;> simp_all
theorem go {a:Act} {w:World} (hS:St W M T n G D F a w) (k:∀ a w,St W M T n G' D' F a w→X' a w) (h:Rn W M T n F false G D X G' D' X':=by exact Qg):X a w:=h w (fun a w' _ hS=>k a w' hS) a hS
theorem Ol {a:Act} {w:World} (hS:St W M T n G D F a w) (k:∀ a,St W M T n G' D' F a w→X' a w) (h:Rn W M T n F true G D X G' D' X':=by exact QD):X a w:=h w (fun a w' e hS=>by cases e rfl; exact k a hS) a hS
theorem ai {a:Act} {w:World} (hS:St W M T n G D F a w) (k:∀ a,St W M T n G' D' F a w→X' a w) (h:Rn W M T n F true G D X G' D' X':=by exact Qg):X a w:=h w (fun a w' e hS=>by cases e rfl; exact k a hS) a hS
section
variable {a:Act} {w:World} {E:Nat→Prop} {o:Oper} {fuel:Nat} {ls:Array Bool} {mods:List (Nat×Tn)} {cs us:bv} {ag:Bool} {Z bb off:Nat} {bt e:TypeId} {xx yy X Y:Operand} {g:Option (Nat×Bool)} {args:Array Operand} {tys:Array TypeId} {f:Nat} {vs:bv} {R:Value→World→Prop} {fn:Func}
theorem en {c:Code} {W0:World} {av:bv} (hf:P.funcs[f]? = some fn) (hn:fn.ntmps=n) (hT:∀ k,T k→k<W0.heap.size) (h:∀ a,St W0 M T n (mz 0 av) [] [] a W0→c.wp P (bodyPost P fn (Np M W0 R)) a W0) (hb:fn.body=some c:=by rfl) (hl:Nat.ble av.length n=true:=by rfl):bj P M f av W0 R:=enter hf hb T n hn hT hl h
theorem ka (hS:St W M T n G D F a w) (hz:i7 P tt=some cs) (k:∀ b,w.heap.size≤b→∀ a w',Kt No w w'→St W M T n ((d,.pointer (some ⟨b,0,none⟩))::G) (.box b cs tt::D) F a w'→wpList P ops Q l a w') (hn:Nat.blt d n=true:=by rfl):wpList P ops Q (⟨some d,.alloc tt,ty,pos,af,none⟩::l) a w:=wl rfl (dd hS hz hn k)
theorem kb (hS:St W M T n G D F a w) (k:∀ b,w.heap.size≤b→∀ a w',Kt No w w'→St W M T n ((d,.pointer (some ⟨b,0,none⟩))::G) (.box b cs tt::D) F a w'→wpList P ops Q l a w') (hx:ev G X=some v:=by rfl) (hv:Cl Z v cs:=by exact Ni) (hn:Nat.blt d n=true:=by rfl):wpList P ops Q (⟨some d,.box tt X,ty,pos,af,none⟩::l) a w:=wl rfl (FH hS hx hv.1 hn k)
theorem kc (hS:St W M T n G D F a w) (hf:aT P f=true) (hc:bj P No f vs w R)
  (k:∀ v w',R v w'→∀ a,Kt No w w'→(∀ rs:List db,(∀ r∈rs,r.ok w'∧∀ k,r.dom k→w.heap.size≤k)→(rs.Pairwise fun r s=>∀ k,r.dom k→¬ s.dom k)→St W M T n ((d,v)::G) (rs++D) F a w')→wpList P ops Q l a w') (hargs:evs G args.toList=some vs:=by rfl) (hn:Nat.blt d n=true:=by rfl):wpList P ops Q (⟨some d,.call { callee:=.value (.func f),args:=args,argTypes:=tys },ty,pos,af,none⟩::l) a w:=wl rfl (bg hS hf hargs hn hc k)
theorem e1 (i:Nat) (h:qT P o a w (fun a' w'=>KK mods i w w'∧tJ P ops Q mods fuel (ls.setIfInBounds i true) a' w')) (hi:ops[i]? = some o:=by rfl) (hr:Region.ready .any ops ls=[i]:=by kernel_rfl) (hg:o.guard=none:=by rfl):tJ P ops Q mods (fuel+1) ls a w:=ue hi hr hg h
theorem ec (i:Nat) (hS:St W M T n G D F a w) (hf:aT P f=true) (hc:bj P No f vs w R)
  (k:∀ v w',R v w'→∀ a,Kt No w w'→(∀ rs:List db,(∀ r∈rs,r.ok w'∧∀ k,r.dom k→w.heap.size≤k)→(rs.Pairwise fun r s=>∀ k,r.dom k→¬ s.dom k)→St W M T n ((d,v)::G) (rs++D) F a w')→tJ P ops Q mods fuel (ls.setIfInBounds i true) a w') (hi:ops[i]? = some ⟨some d,.call { callee:=.value (.func f),args:=args,argTypes:=tys },ty,pos,af,none⟩:=by rfl) (hr:Region.ready .any ops ls=[i]:=by kernel_rfl) (hargs:evs G args.toList=some vs:=by rfl) (hn:Nat.blt d n=true:=by rfl):tJ P ops Q mods (fuel+1) ls a w :=
 ue hi hr rfl (bg hS hf hargs hn hc fun v w' hR a hk hA=>⟨gf hk,k v w' hR a hk hA⟩)
theorem es (i:Nat) [ct:uC P tt ag Z] {q:Nat} (hS:St W M T n G D F a w) (k:∀ w',St W M T n G (D.set q (.box bb (mZ cs off us) bt)) F a w'→tJ P ops Q mods fuel (ls.setIfInBounds i true) a w') (hi:ops[i]? = some ⟨none,.store tt xx yy,ty,pos,af,none⟩:=by rfl) (hr:Region.ready .any ops ls=[i]:=by kernel_rfl) (hx:ev G xx=some (.pointer (some ⟨bb,off,none⟩)):=by rfl) (hD:D[q]? = some (.box bb cs bt):=by exact fI) (hy:ev G yy=some v:=by rfl) (h1:Cl Z v us:=by exact Ni) (h2:∀ u∈us,u.oneCell'=true:=by exact Ot) (hl:Nat.ble (off+Z) cs.length=true:=by rfl) (hm:wA mods i=[.blk (some bb)]:=by rfl):tJ P ops Q mods (fuel+1) ls a w :=
 ue hi hr rfl (tR hS hx hy h1.1 ct.h q hD h1.2 hl h2 fun w' hk hS=>⟨mx hm hk kG,k w' hS⟩)
theorem eD (h:Q .normal a w) (hr:Region.ready .any ops ls=[]:=by kernel_rfl):tJ P ops Q mods fuel ls a w:=D4 hr h fuel
theorem dr {N:Nat} (mods:List (Nat×Tn)) (hS:St W M T n G D F a w) (h:∀ w,Qp Q→St W M T n G D F a w→tJ P l.toArray Q mods N (Array.replicate N false) a w) (hm:P.follows .mixedOrders=true:=by exact mixed) (hN:l.length=N:=by rfl) (hQ:Qp Q:=by exact (fun c a d v w h=>by cases d <;> exact h)):(Code.region id l.toArray true).wp P Q a w:=Le mods hS hm hN hQ h
theorem rC [ct:uC P tt ag Z] {c:Nat} (i:Nat) (hS:St W M T n G D F a w) (hv:lk G c=some (.pointer (some ⟨bb,0,none⟩)):=by rfl) (hi:D[i]? = some (.box bb cs bt):=by rfl) (hl:cs.length=Z:=by rfl) (hz:ag=false→Z=1:=by first | exact (fun h=>by cases h) | exact fun _=>rfl):vL P a w [.cell c tt] [bp ag cs]:=bn hS hv i hi ct.h hl hz aH
end
theorem fin {p:Prop} (h:p:=by
 first
 | ((repeat (apply ve)); exact⟨hS.mtS,hM⟩)
 | (refine⟨_,(fq hM).symm,?_⟩; (repeat (apply ve)); exact⟨rfl,hS.mtS⟩)
 | (cases hM; exact aI hS rfl (aq hS rfl aH) rfl)
 | (have hM:=Oq hM hf1 hMo1; first | ((repeat (apply ve)); exact⟨hS.mtS,hM⟩) | (cases hM; exact aI hS rfl (aq hS rfl aH) rfl))
 | (have hM:=Lh hM hf1 hMo1; first | ((repeat (apply ve)); exact⟨hS.mtS,hM⟩) | (cases hM; exact aI hS rfl (aq hS rfl aH) rfl))
 | (have hM:=lo hM hf1 hMo1; first | ((repeat (apply ve)); exact⟨hS.mtS,hM⟩) | (cases hM; exact aI hS rfl (aq hS rfl aH) rfl))
 | (have hM:=Oq hM hf2 hMo2; first | ((repeat (apply ve)); exact⟨hS.mtS,hM⟩) | (cases hM; exact aI hS rfl (aq hS rfl aH) rfl))
 | (have hM:=Lh hM hf2 hMo2; first | ((repeat (apply ve)); exact⟨hS.mtS,hM⟩) | (cases hM; exact aI hS rfl (aq hS rfl aH) rfl))
 | (have hM:=lo hM hf2 hMo2; first | ((repeat (apply ve)); exact⟨hS.mtS,hM⟩) | (cases hM; exact aI hS rfl (aq hS rfl aH) rfl))):p:=h
theorem fz {p:Prop} (h:p:=by
 refine go hS fun a w hS=>?_
 repeat' (first | exact fin | (rcases cd hM with⟨_,hM⟩|⟨_,hM⟩ <;> refine go hS fun a w hS=>?_))):p:=h
end
end
end
section
open Go.RowKit
structure ap where
  Rules:(List aW)
  Base:aj
  Memo:(List (ah×ByteArray))
  Seen:(List (ah×(List ah)))
structure pZ where
  Done:Bool
  Value:ByteArray
  Ask:ah
theorem NE:aT aP 123=true:=by kernel_rfl
theorem KZ:aT aP 124=true:=by kernel_rfl
theorem Fs:aT aP 149=true:=by kernel_rfl
theorem Ft:aT aP 150=true:=by kernel_rfl
theorem Hz:aT aP 151=true:=by kernel_rfl
theorem wW:aT aP 152=true:=by kernel_rfl
theorem Lb:aT aP 182=true:=by kernel_rfl
theorem Fv:aT aP 184=true:=by kernel_rfl
theorem NZ:aT aP 199=true:=by kernel_rfl
theorem Lc:aT aP 200=true:=by kernel_rfl
theorem N1:aT aP 202=true:=by kernel_rfl
theorem HB:aT aP 236=true:=by kernel_rfl
theorem N6:aT aP 311=true:=by kernel_rfl
theorem JR:fi aP 131 0=some 0:=by kernel_rfl
theorem JS:fi aP 131 1=some 2:=by kernel_rfl
theorem JT:fi aP 131 2=some 3:=by kernel_rfl
theorem JZ:fi aP 160 0=some 0:=by kernel_rfl
theorem J0:fi aP 160 1=some 1:=by kernel_rfl
theorem J1:fi aP 160 2=some 4:=by kernel_rfl
theorem J2:fi aP 190 0=some 0:=by kernel_rfl
theorem J3:fi aP 190 1=some 1:=by kernel_rfl
theorem J4:fi aP 190 2=some 2:=by kernel_rfl
theorem Ow:DM aP 160=some [(0,1),(1,3),(4,1),(5,1)]:=by kernel_rfl
theorem xf:DM aP 190=some [(0,1),(1,1),(2,2)]:=by kernel_rfl
theorem IS:lm aP 184=some 198:=by kernel_rfl
theorem OM:n7 aP 190=some (true,4):=by kernel_rfl
theorem Qa:n7 aP 73=some (false,1):=by kernel_rfl
theorem OX:i7 aP 160=some [.slice none 0 0,.int .i64 0,.slice none 0 0,.slice none 0 0,.map none,.map none]:=by kernel_rfl
theorem oY:i7 aP 190=some [.bool false,.string bI,.int .i64 0,.string bI]:=by kernel_rfl
theorem Ej:Lr aP 9=some (.string bI):=by kernel_rfl
end
section
open Go.RowKit
theorem NF:aT aP 125=true:=by kernel_rfl
theorem K3:aT aP 153=true:=by kernel_rfl
theorem K4:aT aP 154=true:=by kernel_rfl
theorem K5:aT aP 155=true:=by kernel_rfl
theorem K6:aT aP 156=true:=by kernel_rfl
theorem Fu:aT aP 157=true:=by kernel_rfl
theorem NS:aT aP 158=true:=by kernel_rfl
theorem K7:aT aP 160=true:=by kernel_rfl
theorem NX:aT aP 185=true:=by kernel_rfl
theorem NY:aT aP 186=true:=by kernel_rfl
theorem PC:aT aP 87=true:=by kernel_rfl
theorem LW:aT aP 88=true:=by kernel_rfl
theorem PD:aT aP 89=true:=by kernel_rfl
theorem J5:fi aP 198 0=some 0:=by kernel_rfl
theorem J6:fi aP 198 1=some 2:=by kernel_rfl
theorem It:DM aP 131=some [(0,2),(2,1),(3,1),(4,1),(5,1)]:=by kernel_rfl
theorem DW:n7 aP 198=some (true,4):=by kernel_rfl
end
section
open Go.RowKit
theorem NH:aT aP 127=true:=by kernel_rfl
theorem Hy:aT aP 128=true:=by kernel_rfl
theorem Of:aT aP 91=true:=by kernel_rfl
theorem PE:aT aP 92=true:=by kernel_rfl
theorem PF:aT aP 93=true:=by kernel_rfl
theorem Km:DM aP 31=some [(0,1),(1,1),(2,1)]:=by kernel_rfl
end
section
open Go.RowKit
structure aJ where
  S:ap
  B:aj
  Busy:(List (ah×Bool))
  Ran:(List ah)
  E:Int
theorem NJ:aT aP 130=true:=by kernel_rfl
theorem NK:aT aP 131=true:=by kernel_rfl
theorem NT:aT aP 159=true:=by kernel_rfl
theorem LZ:aT aP 95=true:=by kernel_rfl
theorem JU:fi aP 138 0=some 0:=by kernel_rfl
theorem JV:fi aP 138 1=some 1:=by kernel_rfl
theorem JW:fi aP 138 2=some 4:=by kernel_rfl
theorem JX:fi aP 138 3=some 5:=by kernel_rfl
theorem JY:fi aP 138 4=some 6:=by kernel_rfl
theorem Iu:DM aP 138=some [(0,1),(1,3),(4,1),(5,1),(6,1)]:=by kernel_rfl
theorem Ll:n7 aP 126=some (false,1):=by kernel_rfl
theorem OL:n7 aP 136=some (false,1):=by kernel_rfl
theorem ON:n7 aP 37=some (false,1):=by kernel_rfl
theorem Je:i7 aP 138=some [.pointer none,.int .i64 0,.slice none 0 0,.slice none 0 0,.map none,.slice none 0 0,.int .i64 0]:=by kernel_rfl
end
section
open Go.RowKit
theorem Pa:aT aP 30=true:=by kernel_rfl
theorem LG:aT aP 31=true:=by kernel_rfl
theorem N7:aT aP 32=true:=by kernel_rfl
theorem Pb:aT aP 33=true:=by kernel_rfl
theorem LH:aT aP 55=true:=by kernel_rfl
theorem LJ:aT aP 56=true:=by kernel_rfl
theorem Ph:aT aP 57=true:=by kernel_rfl
theorem Pi:aT aP 58=true:=by kernel_rfl
theorem Pj:aT aP 59=true:=by kernel_rfl
theorem Pk:aT aP 60=true:=by kernel_rfl
end
section
open Go.RowKit
structure aG where
  Name:ByteArray
  Inputs:(List am)
def aU:aY aG where
  size:=2
  rel:=fun T w cs x=>∃ v1,cs=[.string x.Name,v1]∧aE ad T w v1 x.Inputs
  len:=by rintro _ _ _ _ ⟨v1,rfl,hv1⟩; rfl
  one:=by rintro _ _ _ _ ⟨v1,rfl,hv1⟩; exact (oc rfl (oc hv1.one on))
  keep:=by rintro _ _ _ _ _ _ ⟨v1,rfl,hv1⟩ k n; exact⟨v1,rfl,hv1.keep k n⟩
theorem NA:aT aP 112=true:=by kernel_rfl
theorem NB:aT aP 113=true:=by kernel_rfl
theorem EA:aT aP 12=true:=by kernel_rfl
theorem Df:aT aP 14=true:=by kernel_rfl
theorem N3:aT aP 23=true:=by kernel_rfl
theorem Gv:aT aP 24=true:=by kernel_rfl
theorem N4:aT aP 25=true:=by kernel_rfl
theorem LD:aT aP 27=true:=by kernel_rfl
theorem HC:aT aP 37=true:=by kernel_rfl
theorem JE:aT aP 38=true:=by kernel_rfl
theorem HE:aT aP 40=true:=by kernel_rfl
theorem N9:aT aP 41=true:=by kernel_rfl
theorem Pd:aT aP 44=true:=by kernel_rfl
theorem Pe:aT aP 45=true:=by kernel_rfl
theorem Ob:aT aP 50=true:=by kernel_rfl
theorem HF:aT aP 51=true:=by kernel_rfl
theorem Px:aT aP 76=true:=by kernel_rfl
theorem Py:aT aP 78=true:=by kernel_rfl
theorem Nh:aT aP 9=true:=by kernel_rfl
theorem FA:zJ aP 117=some (34,1,24):=by kernel_rfl
theorem Mg:fi aP 51 0=some 0:=by kernel_rfl
theorem Mh:fi aP 51 1=some 1:=by kernel_rfl
theorem IR:lm aP 117=some 34:=by kernel_rfl
theorem Bk:lm aP 48=some 51:=by kernel_rfl
theorem M3:n7 aP 34=some (false,1):=by kernel_rfl
theorem Bl:n7 aP 51=some (true,2):=by kernel_rfl
theorem KH:i7 aP 34=some [.slice none 0 0]:=by kernel_rfl
theorem Bm:i7 aP 51=some [.string bI,.slice none 0 0]:=by kernel_rfl
theorem Oi {W:World} {M T E:Nat→Prop} {n:Nat} {G:List (Nat×Value)} {D:List db} {F:List cA} {a:Act} {w:World} {d:Option Nat} {t2:TypeId} {x y:Operand} {ty:TypeId} {pos:String} {af:Array Edge} {g:Option (Nat×Bool)} {p0 q0:Int} {p1 q1:ByteArray} {p2 q2:ByteArray} (hS:St W M T n G D F a w) (hx:ev G x=some (.agg #[.int .i64 p0,.string p1,.string p2])) (hy:ev G y=some (.agg #[.int .i64 q0,.string q1,.string q2])):Ye aP ⟨d,.binOp .neq 46 x y t2,ty,pos,af,g⟩ a E w (.bool (!(p0==q0&&p1.toList==q1.toList&&p2.toList==q2.toList))) :=
  Ye.of fun w=>by
    have h1:=hS.ev hx
    have h2:=hS.ev hy
    clear hS hx hy
    simp only [execOp,h1,h2,eqGuard]
    simp [go_sem]
    (repeat' split) <;> simp_all
end
section
open Go.RowKit
theorem JB:aT aP 10=true:=by kernel_rfl
theorem JC:aT aP 11=true:=by kernel_rfl
theorem NI:aT aP 13=true:=by kernel_rfl
theorem NU:aT aP 16=true:=by kernel_rfl
theorem N0:aT aP 20=true:=by kernel_rfl
theorem N2:aT aP 21=true:=by kernel_rfl
theorem O9:aT aP 26=true:=by kernel_rfl
theorem N5:aT aP 28=true:=by kernel_rfl
theorem Qj:aT aP 5=true:=by kernel_rfl
theorem LM:aT aP 6=true:=by kernel_rfl
theorem Qk:aT aP 7=true:=by kernel_rfl
theorem Ql:aT aP 8=true:=by kernel_rfl
theorem L6:zJ aP 48=some (51,2,40):=by kernel_rfl
theorem PM:zJ aP 55=some (5,1,1):=by kernel_rfl
theorem Kn:DM aP 51=some [(0,1),(1,1)]:=by kernel_rfl
theorem Rk:i7 aP 5=some [.int .u8 0]:=by kernel_rfl
end
section
open Go.RowKit
instance:uC aP 34 false 1:=⟨M3⟩
instance:uC aP 51 true 2:=⟨Bl⟩
instance:pY aP 51 0 0:=⟨Mg⟩
instance:pY aP 51 1 1:=⟨Mh⟩
instance:Fj aP 117 34:=⟨IR⟩
instance:Fj aP 48 51:=⟨Bk⟩
instance:uC aP 28 false 1:=⟨P8⟩
instance:uC aP 29 false 1:=⟨P9⟩
instance:uC aP 3 false 1:=⟨CM⟩
instance:uC aP 31 true 3:=⟨fy⟩
instance:uC aP 4 false 1:=⟨M4⟩
instance:uC aP 44 true 2:=⟨dR⟩
instance:uC aP 46 true 3:=⟨s9⟩
instance:uC aP 58 false 1:=⟨E7⟩
instance:uC aP 69 true 4:=⟨uz⟩
instance:uC aP 84 true 8:=⟨m5⟩
instance:uC aP 9 false 1:=⟨Ji⟩
instance:pY aP 31 0 0:=⟨L9⟩
instance:pY aP 31 1 1:=⟨Ma⟩
instance:pY aP 31 2 2:=⟨Mb⟩
instance:pY aP 44 0 0:=⟨Mc⟩
instance:pY aP 44 1 1:=⟨Md⟩
instance:pY aP 46 0 0:=⟨Me⟩
instance:pY aP 46 1 2:=⟨Mf⟩
instance:pY aP 69 0 0:=⟨Mk⟩
instance:pY aP 69 1 2:=⟨Ml⟩
instance:pY aP 69 2 3:=⟨Mm⟩
instance:pY aP 84 0 0:=⟨Mn⟩
instance:pY aP 84 1 2:=⟨Mo⟩
instance:pY aP 84 2 3:=⟨Mp⟩
instance:pY aP 84 3 4:=⟨Mq⟩
instance:pY aP 84 4 5:=⟨Mr⟩
instance:pY aP 84 5 6:=⟨Ms⟩
instance:pY aP 84 6 7:=⟨Mt⟩
instance:Fj aP 22 3:=⟨G5⟩
instance:Fj aP 28 69:=⟨u5⟩
instance:Fj aP 29 84:=⟨qB⟩
instance:Fj aP 34 46:=⟨tA⟩
instance:Fj aP 58 44:=⟨kB⟩
instance:uC aP 22 false 1:=⟨P6⟩
instance:uC aP 87 false 1:=⟨Qb⟩
instance:uC aP 89 true 4:=⟨xA⟩
instance:uC aP 93 true 4:=⟨M5⟩
instance:pY aP 64 0 0:=⟨Mi⟩
instance:pY aP 64 1 1:=⟨Mj⟩
instance:pY aP 89 0 0:=⟨Mu⟩
instance:pY aP 89 1 1:=⟨Mv⟩
instance:pY aP 89 2 2:=⟨Mw⟩
instance:pY aP 89 3 3:=⟨Mx⟩
instance:pY aP 93 0 0:=⟨My⟩
instance:pY aP 93 1 1:=⟨Mz⟩
instance:pY aP 93 2 2:=⟨MA⟩
instance:pY aP 93 3 3:=⟨MB⟩
instance:Fj aP 27 89:=⟨yk⟩
instance:Fj aP 77 9:=⟨IT⟩
instance:Fj aP 87 93:=⟨M2⟩
instance:uC aP 131 true 6:=⟨u7⟩
instance:uC aP 27 false 1:=⟨P7⟩
instance:uC aP 77 false 1:=⟨E8⟩
instance:uC aP 95 false 1:=⟨OO⟩
instance:uC aP 97 true 7:=⟨yn⟩
instance:pY aP 131 3 4:=⟨Cf⟩
instance:pY aP 131 4 5:=⟨Cg⟩
instance:pY aP 97 0 0:=⟨MC⟩
instance:pY aP 97 1 1:=⟨ME⟩
instance:pY aP 97 2 4:=⟨MF⟩
instance:pY aP 97 3 5:=⟨MG⟩
instance:pY aP 97 4 6:=⟨MH⟩
instance:Fj aP 95 131:=⟨Av⟩
instance:uC aP 190 true 4:=⟨OM⟩
instance:uC aP 73 false 1:=⟨Qa⟩
instance:pY aP 131 0 0:=⟨JR⟩
instance:pY aP 131 1 2:=⟨JS⟩
instance:pY aP 131 2 3:=⟨JT⟩
instance:pY aP 160 0 0:=⟨JZ⟩
instance:pY aP 160 1 1:=⟨J0⟩
instance:pY aP 160 2 4:=⟨J1⟩
instance:pY aP 190 0 0:=⟨J2⟩
instance:pY aP 190 1 1:=⟨J3⟩
instance:pY aP 190 2 2:=⟨J4⟩
instance:Fj aP 184 198:=⟨IS⟩
instance:uC aP 198 true 4:=⟨DW⟩
instance:pY aP 198 0 0:=⟨J5⟩
instance:pY aP 198 1 2:=⟨J6⟩
instance:uC aP 126 false 1:=⟨Ll⟩
instance:uC aP 136 false 1:=⟨OL⟩
instance:uC aP 37 false 1:=⟨ON⟩
instance:pY aP 138 0 0:=⟨JU⟩
instance:pY aP 138 1 1:=⟨JV⟩
instance:pY aP 138 2 4:=⟨JW⟩
instance:pY aP 138 3 5:=⟨JX⟩
instance:pY aP 138 4 6:=⟨JY⟩
instance:KM aP 3 (.int .i64):=⟨Tryz.underlying3⟩
instance:KM aP 5 (.int .u8):=⟨Tryz.underlying5⟩
instance:KM aP 9 .string:=⟨Tryz.underlying9⟩
instance:KM aP 21 (.int .i32):=⟨Tryz.underlying21⟩
instance:KM aP 146 (.int .u64):=⟨Tryz.underlying146⟩
abbrev pt (b o:Nat):Value:=.pointer (some ⟨b,o,none⟩)
abbrev om (b:Nat) (e:Array MapEntry) (c:Nat):db:=.obj b (.map e c)
abbrev TW (T:Nat→Prop) (w:World):Prop:=∀ k,T k→k<w.heap.size
abbrev su (x:aG) (v0:Value):bv:=[.string x.Name,v0]
abbrev aV (x:ah):bv:=[.int .i64 x.Kind,.string x.Text]
abbrev pg (x:aN):bv:=[.int .i64 x.Key.Kind,.string x.Key.Text,.string x.Value,.int .i64 x.Changed]
abbrev br (x:aw) (v0:Value):bv:=[.int .i64 x.Key.Kind,.string x.Key.Text,.string x.Value,v0,.int .i64 x.Changed,.int .i64 x.Verified,.int .i64 x.Cost,.bool x.Dirty]
abbrev bf (x:aj) (v0 v1:Value):bv:=[.int .i64 x.Revision,v0,v1]
abbrev gt (x:am):bv:=[.int .i64 x.Key.Kind,.string x.Key.Text,.string x.Value]
abbrev bk (x:aX) (v0:Value):bv:=[v0,.int .i64 x.At]
abbrev Ly (x:dA):bv:=[.bool x.Cell,.bool x.Pick,.int .i64 x.N,.int .i64 x.Else]
abbrev vN (x:aW) (v0:Value):bv:=[.bool x.Ring,v0,.int .i64 x.Final,.int .i64 x.C]
abbrev mp (x:bB) (v0 v1:Value):bv:=[.int .i64 x.Key.Kind,.string x.Key.Text,.bool x.Running,.int .i64 x.At,v0,v1]
abbrev vO (x:dB) (v0 v1 v2 v3 v4 v5:Value):bv:=[v0,.int .i64 x.Base.Revision,v1,v2,v3,v4,v5]
abbrev Ey (x:dg):bv:=[.int .i64 x.Member.Kind,.string x.Member.Text,.int .i64 x.Read.Kind,.string x.Read.Text]
abbrev KQ (x:pZ):bv:=[.bool x.Done,.string x.Value,.int .i64 x.Ask.Kind,.string x.Ask.Text]
abbrev LL:=List (ah×(List ah))
abbrev LB:=List (ah×ByteArray)
abbrev LO:=List (ah×Bool)
abbrev LR:=List aw
abbrev LI:=List aN
abbrev LK:=List ah
abbrev LU:=List aW
abbrev LV:=bv
abbrev AM:=Array MapEntry
abbrev LN:=List Int
abbrev LY:=List ByteArray
abbrev LF:=List bB
abbrev LC:=List am
abbrev xd (v:Value) (c:bv):db:=.own v 93 ff.size c
abbrev DK (v:Value) (c:bv):db:=.own v 51 aU.size c
abbrev ba (v:Value) (c:bv):db:=.own v 46 ad.size c
abbrev ne (v:Value) (c:bv):db:=.own v 198 gh.size c
abbrev dV (v:Value) (c:bv):db:=.own v 131 az.size c
abbrev bh (v:Value) (c:bv):db:=.own v 69 ae.size c
abbrev ay (v:Value) (c:bv):db:=.own v 44 ac.size c
abbrev aS (v:Value) (c:bv):db:=.own v 84 aa.size c
abbrev cm (v:Value) (c:bv):db:=.own v 89 aC.size c
abbrev kC (e:Array MapEntry) (x:List (ah×ByteArray)):cA:=pa ac true aY.str false e x
abbrev sr (e:Array MapEntry) (x:List (ah×(List ah))):cA:=pa ac true (aY.slice ac) false e x
abbrev vU (e:Array MapEntry) (x:List (ah×Bool)):cA:=pa ac true aY.bool false e x
abbrev xS (b:Nat) (v:Value) (r:Int) (v1 v2:Value) (m k:Nat):db:=.box b [v,.int .i64 r,v1,v2,.map (some m),.map (some k)] 160
abbrev xE (b d:Nat) (r:Int) (v1 v2:Value) (m:Nat) (v3:Value) (e:Int):db:=.box b [.pointer (some ⟨d,0,none⟩),.int .i64 r,v1,v2,.map (some m),v3,.int .i64 e] 138
end
section
set_option maxRecDepth 100000
set_option maxHeartbeats 4000000
open Go.RowKit
noncomputable section
def oy:Option Bool:=some (true)
def iQ (e:LK) (f:LK) (b:Int):Option (Fl (Int) (Fl (Unit) Bool)):=cond (decide (b<(e.length:Int))) ((bu e b).bind fun c=>(bu f b).bind fun d=>cond (!(d.Kind==c.Kind&&d.Text.toList==c.Text.toList)) (some (.out (.out false))) (some (.go (IntKind.i64.wrap (b+1))))) (some (.out (.go ())))
def gZ (b:LK) (c:LK):Option Bool:=cond ((b.length:Int) != (c.length:Int)) (some (false)) ((loop (fun s:Int=>iQ b c s) 0).bind fun r=>Fl.el r (fun s=>oy) (fun y=>some (y)))
theorem pu (T:Nat→Prop) (W0:World) (hT:TW T W0) (c:LK) (d:LK) (i:Value) (j:Value) (t:aE ac T W0 i c) (u:aE ac T W0 j d) (y:Bool) (hM:gZ c d=some y):bj aP No 29 [i,j] W0 (fun v w'=>v = .bool y):=by
 refine en Tryz.func29 Tryz.ntmps29 hT fun a hS=>?_;replace hS:=(hS.fS (aE.dn t)).fS (aE.dn u);unfold gZ at hM;refine ai hS fun a hS=>?_;refine aD ?_;refine ai hS fun a hS=>?_;rcases cd hM with⟨l,hM⟩|⟨l,hM⟩
 ·exact fz
 refine ai hS fun a hS=>?_;refine aK (J:=fun a w=>St W0 No T 26 [] [] [] a w∧oy=some y) ?_ ?_
 ·skip;refine ai hS fun a hS=>?_;obtain⟨F,r,hMo1⟩:=bd hM;refine bF _ (fun s a w=>∃ (b:Int),b=s∧St W0 No T 26 [(1,j),(12,i),(13,al (c.length:Int)),(14,al b)] [] [aR ac j d,aR ac i c] a w) r ⟨_,rfl,hS.mt [] [0,1]⟩ ?_;rintro s a w C ⟨b,rfl,hS⟩ hM hf1;have hM:iQ c d b=some C:=hM;unfold iQ at hM;refine ai hS fun a hS=>?_;refine aD ?_;rcases cd hM with⟨m,hM⟩|⟨m,hM⟩
  ·refine ai hS fun a hS=>?_;refine aD ?_;refine ai hS fun a hS=>?_;obtain⟨e,g,hM⟩:=bd hM;refine wl rfl (bm (R:=ac) hS kB dR rfl rfl 1 rfl g rfl fun x E A n a hS=>?_);obtain rfl:=n;refine ai hS fun a hS=>?_;refine ka hS gU fun z D a w hk hS=>?_;refine go hS fun a w hS=>?_;refine aD ?_;refine dr [] hS fun w hQ hS=>?_;refine gE [0,1] hS fun a hS=>?_;obtain⟨f,h,hM⟩:=bd hM;obtain⟨k,q,B,o,p,hS⟩:=jj (R:=ac) hS kB dR 1 rfl h;obtain rfl:=o;refine dy 2 (v:=pt k q) rfl (by kernel_rfl) (by kernel_rfl) (by kernel_rfl) rfl hQ hS (p rfl rfl) rfl rfl rfl fun a hS=>?_;refine gE [3,4] hS fun a hS=>?_;refine dy 5 (v:=.bool (!(f.Kind==e.Kind&&f.Text.toList==e.Text.toList))) rfl (by kernel_rfl) (by kernel_rfl) (by kernel_rfl) rfl hQ hS (zM hS rfl rfl) rfl rfl rfl fun a hS=>?_;refine eD ?_;exact fz
  exact fz
 rintro a w ⟨hS,hM⟩;unfold oy at hM;exact fz
def dx (b:Bool):Option Bool:=some (b)
def mN (b:aw) (c:aw):Option Bool:=cond (b.Key.Kind==c.Key.Kind&&b.Key.Text.toList==c.Key.Text.toList) (cond (b.Value.toList==c.Value.toList) ((gZ b.Reads c.Reads).bind fun d=>cond d (cond (b.Changed==c.Changed) (cond (b.Verified==c.Verified) (cond (b.Cost==c.Cost) (dx (b.Dirty==c.Dirty)) (dx false)) (dx false)) (dx false)) (dx false)) (dx false)) (dx false)
theorem yV (T:Nat→Prop) (W0:World) (hT:TW T W0) (b:aw) (c:aw) (n:Value) (o:Value) (l:aE ac T W0 n b.Reads) (m:aE ac T W0 o c.Reads) (y:Bool) (hM:mN b c=some y):bj aP No 75 [.agg (br b n).toArray,.agg (br c o).toArray] W0 (fun v w'=>v = .bool y):=by
 refine en Tryz.func75 Tryz.ntmps75 hT fun a hS=>?_;replace hS:=(hS.fS (aE.dn l)).fS (aE.dn m);unfold mN at hM;refine ai hS fun a hS=>?_;refine kb hS fun p r a w hk hS=>?_;refine kb hS fun q s a w hk hS=>?_;refine ai hS fun a hS=>?_;refine aK (J:=fun a w=>∃ (d:Bool),St W0 No T 52 [(4,.bool d)] [] [] a w∧dx d=some y) ?_ ?_
 ·skip;refine ai hS fun a hS=>?_;refine wl rfl (ky (v:=.bool (b.Key.Kind==c.Key.Kind&&b.Key.Text.toList==c.Key.Text.toList)) hS (zL hS rfl rfl) rfl rfl fun a hS=>?_);refine ai hS fun a hS=>?_;rcases cd hM with⟨h,hM⟩|⟨h,hM⟩
  ·refine ai hS fun a hS=>?_;rcases cd hM with⟨e,hM⟩|⟨e,hM⟩
   ·refine ai hS fun a hS=>?_;obtain⟨t,g,hM⟩:=bd hM;refine wg hS rfl rfl rfl e (bg hS LE rfl rfl (pu _ _ hS.dlt b.Reads c.Reads _ _ (hS.get 1 rfl) (hS.get 0 rfl) _ g) fun _ w hR a hk hA=>?_);obtain rfl:=hR;have hS:=bY hA;refine ai hS fun a hS=>?_;rcases cd hM with⟨i,hM⟩|⟨i,hM⟩
    ·refine ai hS fun a hS=>?_;rcases cd hM with⟨j,hM⟩|⟨j,hM⟩
     ·refine ai hS fun a hS=>?_;rcases cd hM with⟨k,hM⟩|⟨k,hM⟩
      ·refine ai hS fun a hS=>?_;rcases cd hM with⟨f,hM⟩|⟨f,hM⟩
       ·refine ai hS fun a hS=>?_;refine qg hS f (CR hS rfl rfl Tryz.underlying4 (.inl ⟨rfl,rfl⟩)) fun a hS=>?_;exact fz
       exact fz
      exact fz
     exact fz
    exact fz
   exact fz
  exact fz
 rintro a w ⟨d,hS,hM⟩;unfold dx at hM;exact fz
def sR:Option Bool:=some (true)
def mO (c:LR) (g:LR) (b:Int):Option (Fl (Int) (Fl (Unit) Bool)):=cond (decide (b<(c.length:Int))) ((bu c b).bind fun d=>(bu g b).bind fun e=>(mN d e).bind fun f=>cond (!(f)) (some (.out (.out false))) (some (.go (IntKind.i64.wrap (b+1))))) (some (.out (.go ())))
def rZ (b:LR) (c:LR):Option Bool:=cond ((b.length:Int) != (c.length:Int)) (some (false)) ((loop (fun s:Int=>mO b c s) 0).bind fun r=>Fl.el r (fun s=>sR) (fun y=>some (y)))
theorem CD (T:Nat→Prop) (W0:World) (hT:TW T W0) (c:LR) (d:LR) (j:Value) (k:Value) (z:aE aa T W0 j c) (A:aE aa T W0 k d) (y:Bool) (hM:rZ c d=some y):bj aP No 39 [j,k] W0 (fun v w'=>v = .bool y):=by
 refine en Tryz.func39 Tryz.ntmps39 hT fun a hS=>?_;replace hS:=(hS.fS (aE.dn z)).fS (aE.dn A);unfold rZ at hM;refine ai hS fun a hS=>?_;refine aD ?_;refine ai hS fun a hS=>?_;rcases cd hM with⟨o,hM⟩|⟨o,hM⟩
 ·exact fz
 refine ai hS fun a hS=>?_;refine aK (J:=fun a w=>St W0 No T 27 [] [] [] a w∧sR=some y) ?_ ?_
 ·skip;refine ai hS fun a hS=>?_;obtain⟨M,x,hMo1⟩:=bd hM;refine bF _ (fun s a w=>∃ (b:Int),b=s∧St W0 No T 27 [(1,k),(12,j),(13,al (c.length:Int)),(14,al b)] [] [aR aa k d,aR aa j c] a w) x ⟨_,rfl,hS.mt [] [0,1]⟩ ?_;rintro s a w F ⟨b,rfl,hS⟩ hM hf1;have hM:mO c d b=some F:=hM;unfold mO at hM;refine ai hS fun a hS=>?_;refine aD ?_;rcases cd hM with⟨p,hM⟩|⟨p,hM⟩
  ·refine ai hS fun a hS=>?_;refine aD ?_;refine ai hS fun a hS=>?_;obtain⟨m,e,hM⟩:=bd hM;refine wl rfl (bm (R:=aa) hS qB m5 rfl rfl 1 rfl e rfl fun B H D q a hS=>?_);obtain⟨K,rfl,h⟩:=q;replace hS:=hS.fS h;refine ai hS fun a hS=>?_;refine ka hS gV fun C G a w hk hS=>?_;refine go hS fun a w hS=>?_;refine aD ?_;refine dr [] hS fun w hQ hS=>?_;refine gE [0,1,2] hS fun a hS=>?_;obtain⟨n,f,hM⟩:=bd hM;obtain⟨l,u,E,r,t,hS⟩:=jj (R:=aa) hS qB m5 2 rfl f;obtain⟨L,rfl,i⟩:=r;replace hS:=hS.fS i;refine dy 3 (v:=pt l u) rfl (by kernel_rfl) (by kernel_rfl) (by kernel_rfl) rfl hQ hS (t rfl rfl) rfl rfl rfl fun a hS=>?_;refine gE [4] hS fun a hS=>?_;obtain⟨I,g,hM⟩:=bd hM;refine ec 5 hS Pw (yV _ _ hS.dlt m n _ _ (hS.get 2 rfl) (hS.get 0 rfl) _ g) fun _ w hR a hk hA=>?_;obtain rfl:=hR;have hS:=bY hA;refine gE [6] hS fun a hS=>?_;refine eD ?_;exact fz
  exact fz
 rintro a w ⟨hS,hM⟩;unfold sR at hM;exact fz
def sU:Option Bool:=some (true)
def mP (e:aj) (f:aj) (d:Int):Option (Fl (Int) (Fl (Unit) Bool)):=cond (decide (d<(e.Inputs.length:Int))) ((bu e.Inputs d).bind fun b=>(bu f.Inputs d).bind fun c=>cond (!(c.Key.Kind==b.Key.Kind&&c.Key.Text.toList==b.Key.Text.toList&&c.Value.toList==b.Value.toList&&c.Changed==b.Changed)) (some (.out (.out false))) (some (.go (IntKind.i64.wrap (d+1))))) (some (.out (.go ())))
def nG (b:aj) (c:aj):Option Bool:=cond (b.Revision != c.Revision) (some (false)) (cond ((b.Inputs.length:Int) != (c.Inputs.length:Int)) (some (false)) ((rZ b.Records c.Records).bind fun d=>cond (!(d)) (some (false)) ((loop (fun s:Int=>mP b c s) 0).bind fun r=>Fl.el r (fun s=>sU) (fun y=>some (y)))))
theorem xj (T:Nat→Prop) (W0:World) (hT:TW T W0) (c:aj) (b:aj) (l:Value) (F:Value) (m:Value) (n:Value) (B:aE ae T W0 l c.Inputs) (C:aE aa T W0 F c.Records) (D:aE ae T W0 m b.Inputs) (E:aE aa T W0 n b.Records) (y:Bool) (hM:nG c b=some y):bj aP No 13 [.agg (bf c l F).toArray,.agg (bf b m n).toArray] W0 (fun v w'=>v = .bool y):=by
 refine en Tryz.func13 Tryz.ntmps13 hT fun a hS=>?_;replace hS:=(((hS.fS (aE.dn B)).fS (aE.dn C)).fS (aE.dn D)).fS (aE.dn E);unfold nG at hM;refine ai hS fun a hS=>?_;refine kb hS fun G N a w hk hS=>?_;refine kb hS fun g O a w hk hS=>?_;refine ai hS fun a hS=>?_;refine aD ?_;refine iY ?_;refine ai hS fun a hS=>?_;rcases cd hM with⟨p,hM⟩|⟨p,hM⟩
 ·exact fz
 refine ai hS fun a hS=>?_;rcases cd hM with⟨h,hM⟩|⟨h,hM⟩
 ·exact fz
 refine ai hS fun a hS=>?_;obtain⟨S,k,hM⟩:=bd hM;refine wg hS rfl rfl rfl h (bg hS Pc rfl rfl (CD _ _ hS.dlt c.Records b.Records _ _ (hS.get 2 rfl) (hS.get 0 rfl) _ k) fun _ w hR a hk hA=>?_);obtain rfl:=hR;have hS:=bY hA;refine ai hS fun a hS=>?_;rcases cd hM with⟨q,hM⟩|⟨q,hM⟩
 ·exact fz
 refine ai hS fun a hS=>?_;refine aK (J:=fun a w=>St W0 No T 45 [] [] [] a w∧sU=some y) ?_ ?_
 ·skip;refine ai hS fun a hS=>?_;obtain⟨U,A,hMo1⟩:=bd hM;refine bF _ (fun s a w=>∃ (f:Int),f=s∧St W0 No T 45 [(3,pt g 0),(30,l),(31,al (c.Inputs.length:Int)),(32,al f)] [.box g (bf b m n) 31] [aR ae l c.Inputs,aR ae m b.Inputs,aR aa n b.Records] a w) A ⟨_,rfl,hS.mt [0] [3,1,0]⟩ ?_;rintro s a w M ⟨f,rfl,hS⟩ hM hf1;have hM:mP c b f=some M:=hM;unfold mP at hM;refine ai hS fun a hS=>?_;refine aD ?_;rcases cd hM with⟨r,hM⟩|⟨r,hM⟩
  ·refine ai hS fun a hS=>?_;refine aD ?_;refine ai hS fun a hS=>?_;obtain⟨d,i,hM⟩:=bd hM;refine wl rfl (bm (R:=ae) hS u5 uz rfl rfl 0 rfl i rfl fun H Q K t a hS=>?_);obtain rfl:=t;refine ai hS fun a hS=>?_;refine ka hS ug fun I P a w hk hS=>?_;refine go hS fun a w hS=>?_;refine aD ?_;refine dr [] hS fun w hQ hS=>?_;refine gE [0,1,2] hS fun a hS=>?_;obtain⟨e,j,hM⟩:=bd hM;obtain⟨o,z,L,u,x,hS⟩:=jj (R:=ae) hS u5 uz 2 rfl j;obtain rfl:=u;refine dy 3 (v:=pt o z) rfl (by kernel_rfl) (by kernel_rfl) (by kernel_rfl) rfl hQ hS (x rfl rfl) rfl rfl rfl fun a hS=>?_;refine gE [4,5] hS fun a hS=>?_;refine dy 6 (v:=.bool (!(e.Key.Kind==d.Key.Kind&&e.Key.Text.toList==d.Key.Text.toList&&e.Value.toList==d.Value.toList&&e.Changed==d.Changed))) rfl (by kernel_rfl) (by kernel_rfl) (by kernel_rfl) rfl hQ hS (Oj hS rfl rfl) rfl rfl rfl fun a hS=>?_;refine eD ?_;exact fz
  exact fz
 rintro a w ⟨hS,hM⟩;unfold sU at hM;exact fz
def c6 (b:Int):Option ah:=cond (decide (b<0)) (some ((ah.mk 0 bI))) (cond (decide ((99:Int)<b)) (some ((ah.mk 0 bI))) ((w6 b).bind fun c=>some ((ah.mk 30 c))))
theorem dO (T:Nat→Prop) (W0:World) (hT:TW T W0) (hLv:di T W0) (b:Int) (y:ah) (hM:c6 b=some y):bj aP No 19 [al b] W0 (fun v w'=>v = .agg (aV y).toArray):=by
 refine en Tryz.func19 Tryz.ntmps19 hT fun a hS=>?_;replace hS:=hS.fact bC (di.dn hLv);unfold c6 at hM;refine ai hS fun a hS=>?_;refine ka hS gU fun g h a w hk hS=>?_;refine ai hS fun a hS=>?_;refine aD ?_;refine iY ?_;refine ai hS fun a hS=>?_;rcases cd hM with⟨e,hM⟩|⟨e,hM⟩
 ·refine ai hS fun a hS=>?_;refine qy hS (bq (ps:=[]) hS EQ gU rfl (us:=[]) trivial (ws:=[al 0,aO bI]) rfl) fun a hS=>?_;refine go hS fun a w hS=>?_;cases hM
  refine aI hS rfl (rC 0 hS) ?_;exact rfl
 refine ai hS fun a hS=>?_;rcases cd hM with⟨f,hM⟩|⟨f,hM⟩
 ·refine ai hS fun a hS=>?_;refine qy hS (bq (ps:=[]) hS EQ gU rfl (us:=[]) trivial (ws:=[al 0,aO bI]) rfl) fun a hS=>?_;refine go hS fun a w hS=>?_;cases hM
  refine aI hS rfl (rC 0 hS) ?_;exact rfl
 refine ai hS fun a hS=>?_;obtain⟨c,d,hM⟩:=bd hM;refine kc hS JF (y8 _ _ hS.dlt (hS.get 0 rfl) b _ d) fun _ w hR a hk hA=>?_;obtain rfl:=hR;have hS:=bY hA;refine qy hS (bq (ps:=[(0,.const (al 30)),(1,.tmp 11)]) hS EQ gU rfl (us:=[[al 30],[aO c]]) ⟨rfl,⟨rfl,trivial⟩⟩ (ws:=[al 30,aO c]) rfl) fun a hS=>?_;refine go hS fun a w hS=>?_;cases hM
 refine aI hS rfl (rC 0 hS) ?_;exact rfl
def vz (b:LN):Option aX:=some ((aX.mk b 0))
theorem yI (T:Nat→Prop) (W0:World) (hT:TW T W0) (d:LN) (b:Value) (g:aE (aY.int .i64) T W0 b d) (y:aX) (hM:vz d=some y):bj aP No 7 [b] W0 (fun v w'=>∃ (c:Nat) (f:Value),v=pt c 0∧W0.heap.size≤c∧w'.heap[c]? = some (.cells (bk y f).toArray 64 (0,0))∧aE (aY.int .i64) (dT T [.box c (bk y f) 64]) w' f y.L):=by
 refine en Tryz.func7 Tryz.ntmps7 hT fun a hS=>?_;replace hS:=hS.fS (aE.dn g);unfold vz at hM;refine ai hS fun a hS=>?_;refine qy hS (bq (ps:=[(0,.tmp 3)]) hS PV Qd rfl (us:=[[b]]) ⟨(ft (aE.one ((hS.get 0 rfl):aE (aY.int .i64) _ _ _ _))),trivial⟩ (ws:=[b,al 0]) rfl) fun a hS=>?_;refine kb hS fun e h a w hk hS=>?_;refine ai hS fun a hS=>?_;cases hM
 refine aI hS rfl (aq hS rfl aH) ?_;exact⟨e,b,rfl,hS.boxNew 0 rfl,hS.boxRow 0 rfl,(aE.up ⟨.inr (a6 (i:=0) rfl),trivial⟩ (hS.get 0 rfl))⟩
def kI (c:Int) (b:Int):Option Int:=cond (decide (b<1)) (some (0)) (gd (b != 0) <| gd (b != 0) <| some (Int.tmod (IntKind.i64.wrap ((Int.tmod c b)+b)) b))
theorem nE (T:Nat→Prop) (W0:World) (hT:TW T W0) (c:Int) (b:Int) (y:Int) (hM:kI c b=some y):bj aP No 18 [al c,al b] W0 (fun v w'=>v=al y):=by
 refine en Tryz.func18 Tryz.ntmps18 hT fun a hS=>?_;unfold kI at hM;refine ai hS fun a hS=>?_;refine aD ?_;refine ai hS fun a hS=>?_;rcases cd hM with⟨d,hM⟩|⟨d,hM⟩
 ·exact fz
 refine ai hS fun a hS=>?_;obtain⟨e,hM⟩:=be hM;refine qy hS (BW hS rfl rfl (bne_iff_ne.1 e)) fun a hS=>?_;refine ai hS fun a hS=>?_;obtain⟨f,hM⟩:=be hM;refine qy hS (BW hS rfl rfl (bne_iff_ne.1 f)) fun a hS=>?_;exact fz
def cg (b:aX) (e:Int):Option (Int×aX):=cond (decide ((b.L.length:Int)≤b.At)) (some ((0,b))) ((bu b.L (IntKind.i64.wrap ((IntKind.i64.wrap (b.At+1))-1))).bind fun c=>(kI c e).bind fun d=>some ((d,(aX.mk b.L (IntKind.i64.wrap (b.At+1))))))
theorem bE (T:Nat→Prop) (W0:World) (hT:TW T W0) (d:aX) (e:Int) (f:Value) (b:Nat) (m:W0.heap[b]? = some (.cells (bk d f).toArray 64 (0,0))) (q:¬ T b) (t:aE (aY.int .i64) (dT T [.box b (bk d f) 64]) W0 f d.L) (y:Int×aX) (hM:cg d e=some y):bj aP (fun k=>k=b) 34 [pt b 0,al e] W0 (fun v w'=>∃ (s:Value),v=al y.1∧w'.heap[b]? = some (.cells (bk y.2 s).toArray 64 (0,0))∧aE (aY.int .i64) (dT T [.box b (bk y.2 s) 64]) w' s y.2.L):=by
 refine sK (c:=_) Tryz.func34 rfl T 35 Tryz.ntmps34 hT rfl m q fun a hS=>?_;replace hS:=hS.fS t;unfold cg at hM;refine ai hS fun a hS=>?_;refine aD ?_;refine aD ?_;refine dr [] hS fun w hQ hS=>?_;refine gE [0,1,2,3,4,5,6,7,8,9] hS fun a hS=>?_;refine eD ?_;refine ai hS fun a hS=>?_;rcases cd hM with⟨n,hM⟩|⟨n,hM⟩
 ·refine ai hS fun a hS=>?_;cases hM
  refine aI hS rfl (aq hS rfl aH) ?_;exact⟨f,rfl,hS.boxRow 0 rfl,(aE.up ⟨.inr (a6 (i:=0) rfl),trivial⟩ (hS.get 0 rfl))⟩
 refine go hS fun a w hS=>?_;refine aD ?_;refine dr [] hS fun w hQ hS=>?_;refine gE [0,1,2,3,4,5,6,7,8] hS fun a hS=>?_;obtain⟨l,g,hM⟩:=bd hM;obtain⟨j,r,u,o,p,hS⟩:=jj (R:=(aY.int .i64)) hS G5 CM 0 rfl g;obtain rfl:=o;refine dy 9 (v:=pt j r) rfl (by kernel_rfl) (by kernel_rfl) (by kernel_rfl) rfl hQ hS (p rfl rfl) rfl rfl rfl fun a hS=>?_;refine gE [10,11] hS fun a hS=>?_;obtain⟨x,h,hM⟩:=bd hM;refine ec 12 hS EB (nE _ _ hS.dlt l e _ h) fun _ w hR a hk hA=>?_;obtain rfl:=hR;have hS:=bY hA;refine gE [13] hS fun a hS=>?_;refine eD ?_;refine ai hS fun a hS=>?_;cases hM
 refine aI hS rfl (aq hS rfl aH) ?_;exact⟨f,rfl,hS.boxRow 0 rfl,(aE.up ⟨.inr (a6 (i:=0) rfl),trivial⟩ (hS.get 1 rfl))⟩
def ph (e:aX) (c:LY):Option (ByteArray×aX):=(cg e (c.length:Int)).bind fun b=>(bu c b.1).bind fun d=>some ((d,(aX.mk b.2.L b.2.At)))
theorem uG (T:Nat→Prop) (W0:World) (hT:TW T W0) (b:aX) (f:LY) (l:Value) (t:Value) (d:Nat) (q:W0.heap[d]? = some (.cells (bk b l).toArray 64 (0,0))) (n:¬ T d) (r:aE (aY.int .i64) (dT T [.box d (bk b l) 64]) W0 l b.L) (s:aE aY.str (dT T [.box d (bk b l) 64]) W0 t f) (y:ByteArray×aX) (hM:ph b f=some y):bj aP (fun k=>k=d) 17 [pt d 0,t] W0 (fun v w'=>∃ (p:Value),v=aO y.1∧w'.heap[d]? = some (.cells (bk y.2 p).toArray 64 (0,0))∧aE (aY.int .i64) (dT T [.box d (bk y.2 p) 64]) w' p y.2.L):=by
 refine sK (c:=_) Tryz.func17 rfl T 12 Tryz.ntmps17 hT rfl q n fun a hS=>?_;replace hS:=(hS.fS r).fS s;unfold ph at hM;refine ai hS fun a hS=>?_;obtain⟨o,j,hM⟩:=bd hM;refine wl rfl (cC hS nB rfl rfl 0 rfl (bE _ _ (hS.drop 0).dlt b (f.length:Int) _ _ (hS.boxRow 0 rfl) (hS.notin 0 rfl) (aE.lent (i:=0) rfl (hS.get 1 rfl)) _ j) fun _ w hR hk=>?_);obtain⟨g,he,hrow,e⟩:=hR;obtain rfl:=he.symm;refine⟨(bk o.2 g),hrow,fun a hS=>?_⟩;replace hS:=hS.fS (aE.back (i:=0) rfl e);obtain⟨z,h,hM⟩:=bd hM;refine wl rfl (bm (R:=aY.str) hS IT Ji rfl rfl 1 rfl h rfl fun u A x m a hS=>?_);obtain rfl:=m;refine ai hS fun a hS=>?_;cases hM
 refine aI hS rfl (aq hS rfl aH) ?_;exact⟨g,rfl,hS.boxRow 0 rfl,(aE.up ⟨.inr (a6 (i:=0) rfl),trivial⟩ (hS.get 1 rfl))⟩
def qi (e:aX):Option (am×aX):=(cg e 4).bind fun b=>(c6 b.1).bind fun d=>(ph (aX.mk b.2.L b.2.At) ([(ByteArray.mk #[48]),(ByteArray.mk #[49]),(ByteArray.mk #[50]),(ByteArray.mk #[51]),(ByteArray.mk #[55]),(ByteArray.mk #[49,48,48]),bI,(ByteArray.mk #[120]),(ByteArray.mk #[49,54]),(ByteArray.mk #[49])])).bind fun c=>some (((am.mk d c.1),(aX.mk c.2.L c.2.At)))
theorem A5 (T:Nat→Prop) (W0:World) (hT:TW T W0) (d:aX) (q:Value) (b:Nat) (m:W0.heap[b]? = some (.cells (bk d q).toArray 64 (0,0))) (r:¬ T b) (u:aE (aY.int .i64) (dT T [.box b (bk d q) 64]) W0 q d.L) (hLv:di (dT T [.box b (bk d q) 64]) W0) (y:am×aX) (hM:qi d=some y):bj aP (fun k=>k=b) 54 [pt b 0] W0 (fun v w'=>∃ (t:Value),v = .agg (gt y.1).toArray∧w'.heap[b]? = some (.cells (bk y.2 t).toArray 64 (0,0))∧aE (aY.int .i64) (dT T [.box b (bk y.2 t) 64]) w' t y.2.L):=by
 refine sK (c:=_) Tryz.func54 rfl T 10 Tryz.ntmps54 hT rfl m r fun a hS=>?_;replace hS:=(hS.fact bC hLv).fS u;unfold qi at hM;refine ai hS fun a hS=>?_;refine ka hS ir fun z B a w hk hS=>?_;refine ai hS fun a hS=>?_;obtain⟨e,n,hM⟩:=bd hM;refine wl rfl (cC hS nB rfl rfl 1 rfl (bE _ _ (hS.drop 1).dlt d 4 _ _ (hS.boxRow 1 rfl) (hS.notin 1 rfl) (aE.lent (i:=1) rfl (hS.get 0 rfl)) _ n) fun _ w hR hk=>?_);obtain⟨s,he,hrow,h⟩:=hR;obtain rfl:=he.symm;refine⟨(bk e.2 s),hrow,fun a hS=>?_⟩;replace hS:=hS.fS (aE.back (i:=1) rfl h);obtain⟨f,o,hM⟩:=bd hM;refine kc hS xO (dO _ _ hS.dlt (hS.get 2 rfl) e.1 _ o) fun _ w hR a hk hA=>?_;obtain rfl:=hR;have hS:=bY hA;refine ai hS fun a hS=>?_;refine wl rfl (a8 (ps:=[(0,.const (.string ⟨#[48]⟩)),(1,.const (.string ⟨#[49]⟩)),(2,.const (.string ⟨#[50]⟩)),(3,.const (.string ⟨#[51]⟩)),(4,.const (.string ⟨#[55]⟩)),(5,.const (.string ⟨#[49,48,48]⟩)),(6,.const (.string ⟨#[]⟩)),(7,.const (.string ⟨#[120]⟩)),(8,.const (.string ⟨#[49,54]⟩)),(9,.const (.string ⟨#[49]⟩))]) hS xV Ng (zl:=[aO bI,aO bI,aO bI,aO bI,aO bI,aO bI,aO bI,aO bI,aO bI,aO bI]) (by kernel_rfl) rfl (us:=[[aO (ByteArray.mk #[48])],[aO (ByteArray.mk #[49])],[aO (ByteArray.mk #[50])],[aO (ByteArray.mk #[51])],[aO (ByteArray.mk #[55])],[aO (ByteArray.mk #[49,48,48])],[aO bI],[aO (ByteArray.mk #[120])],[aO (ByteArray.mk #[49,54])],[aO (ByteArray.mk #[49])]]) ⟨rfl,⟨rfl,⟨rfl,⟨rfl,⟨rfl,⟨rfl,⟨rfl,⟨rfl,⟨rfl,⟨rfl,trivial⟩⟩⟩⟩⟩⟩⟩⟩⟩⟩ (ws:=[aO (ByteArray.mk #[48]),aO (ByteArray.mk #[49]),aO (ByteArray.mk #[50]),aO (ByteArray.mk #[51]),aO (ByteArray.mk #[55]),aO (ByteArray.mk #[49,48,48]),aO bI,aO (ByteArray.mk #[120]),aO (ByteArray.mk #[49,54]),aO (ByteArray.mk #[49])]) rfl rfl rfl rfl fun A a w hk hS=>?_);replace hS:=(hS.lit (R:=aY.str) (us:=[aO (ByteArray.mk #[48]),aO (ByteArray.mk #[49]),aO (ByteArray.mk #[50]),aO (ByteArray.mk #[51]),aO (ByteArray.mk #[55]),aO (ByteArray.mk #[49,48,48]),aO bI,aO (ByteArray.mk #[120]),aO (ByteArray.mk #[49,54]),aO (ByteArray.mk #[49])]) (xs:=[(ByteArray.mk #[48]),(ByteArray.mk #[49]),(ByteArray.mk #[50]),(ByteArray.mk #[51]),(ByteArray.mk #[55]),(ByteArray.mk #[49,48,48]),bI,(ByteArray.mk #[120]),(ByteArray.mk #[49,54]),(ByteArray.mk #[49])]) 0 rfl (by decide) ((aA.one_ (R:=aY.str) (x:=(ByteArray.mk #[48])) rfl).append ((aA.one_ (R:=aY.str) (x:=(ByteArray.mk #[49])) rfl).append ((aA.one_ (R:=aY.str) (x:=(ByteArray.mk #[50])) rfl).append ((aA.one_ (R:=aY.str) (x:=(ByteArray.mk #[51])) rfl).append ((aA.one_ (R:=aY.str) (x:=(ByteArray.mk #[55])) rfl).append ((aA.one_ (R:=aY.str) (x:=(ByteArray.mk #[49,48,48])) rfl).append ((aA.one_ (R:=aY.str) (x:=bI) rfl).append ((aA.one_ (R:=aY.str) (x:=(ByteArray.mk #[120])) rfl).append ((aA.one_ (R:=aY.str) (x:=(ByteArray.mk #[49,54])) rfl).append (aA.one_ (R:=aY.str) (x:=(ByteArray.mk #[49])) rfl)))))))))) rfl rfl).freeze (R:=aY.str) 0 rfl 0 rfl;obtain⟨g,p,hM⟩:=bd hM;refine wl rfl (cC hS LA rfl rfl 1 rfl (uG _ _ (hS.drop 1).dlt (aX.mk e.2.L e.2.At) ([(ByteArray.mk #[48]),(ByteArray.mk #[49]),(ByteArray.mk #[50]),(ByteArray.mk #[51]),(ByteArray.mk #[55]),(ByteArray.mk #[49,48,48]),bI,(ByteArray.mk #[120]),(ByteArray.mk #[49,54]),(ByteArray.mk #[49])]) _ _ _ (hS.boxRow 1 rfl) (hS.notin 1 rfl) (aE.lent (i:=1) rfl (hS.get 2 rfl)) (aE.lent (i:=1) rfl (hS.get 0 rfl)) _ p) fun _ w hR hk=>?_);obtain⟨l,he,hrow,j⟩:=hR;obtain rfl:=he.symm;refine⟨(bk g.2 l),hrow,fun a hS=>?_⟩;replace hS:=hS.fS (aE.back (i:=1) rfl j);refine qy hS (bq (ps:=[(0,.tmp 5),(1,.tmp 8)]) hS uQ ir rfl (us:=[(aV f),[aO g.1]]) ⟨rfl,⟨rfl,trivial⟩⟩ (ws:=[al f.Kind,aO f.Text,aO g.1]) rfl) fun a hS=>?_;refine go hS fun a w hS=>?_;cases hM
 refine aI hS rfl (rC 0 hS) ?_;exact⟨l,rfl,hS.boxRow 1 rfl,(aE.up ⟨.inr (a6 (i:=1) rfl),trivial⟩ (hS.get 0 rfl))⟩
def na (d:LC) (b:LN) (c:Int):Option (LC×aX):=some ((d,(aX.mk b c)))
def nb (c:LC) (f:Int) (d:LN) (e:Int):Option (Fl (LC×Int×LN×Int) (LC×LN×Int)):=cond (decide ((0:Int)<f)) ((qi (aX.mk d e)).bind fun b=>gd (bH (c.length+([(am.mk (ah.mk b.1.Key.Kind b.1.Key.Text) b.1.Value)]).length)) <| some (.go ((c++([(am.mk (ah.mk b.1.Key.Kind b.1.Key.Text) b.1.Value)])),IntKind.i64.wrap (f-1),b.2.L,b.2.At))) (some (.out (c,d,e)))
def l7 (d:aX) (c:Int):Option (LC×aX):=(cg d (IntKind.i64.wrap (c+1))).bind fun b=>(loop (fun s:LC×Int×LN×Int=>nb s.1 s.2.1 s.2.2.1 s.2.2.2) (([]:List am),b.1,b.2.L,b.2.At)).bind fun r=>na r.1 r.2.1 r.2.2
theorem uO (T:Nat→Prop) (W0:World) (hT:TW T W0) (h:aX) (m:Int) (E:Value) (d:Nat) (P:W0.heap[d]? = some (.cells (bk h E).toArray 64 (0,0))) (K:¬ T d) (S:aE (aY.int .i64) (dT T [.box d (bk h E) 64]) W0 E h.L) (hLv:di (dT T [.box d (bk h E) 64]) W0) (y:LC×aX) (hM:l7 h m=some y):bj aP (fun k=>k=d) 32 [pt d 0,al m] W0 (fun v w'=>∃ (F:Value) (sI:bv) (G:Value),v=F∧gg ad T W0 w' [ba F sI,.box d (bk y.2 G) 64] 46 F sI y.1∧w'.heap[d]? = some (.cells (bk y.2 G).toArray 64 (0,0))∧aE (aY.int .i64) (dT T [ba F sI,.box d (bk y.2 G) 64]) w' G y.2.L):=by
 refine sK (c:=_) Tryz.func32 rfl T 21 Tryz.ntmps32 hT rfl P K fun a hS=>?_;replace hS:=(hS.fact bC hLv).fS S;unfold l7 at hM;refine ai hS fun a hS=>?_;refine aK (J:=fun a w=>∃ (t:LC) (q:LN) (r:Int) (n:Value) (j:LV) (o:Value),St W0 (fun k=>k=d) T 21 [(5,n)] [ba n j,.box d [o,al r] 64] [an ad j t,aR (aY.int .i64) o q,bC] a w∧na t q r=some y) ?_ ?_
 ·skip;refine ai hS fun a hS=>?_;obtain⟨M,D,hM⟩:=bd hM;refine wl rfl (cC hS nB rfl rfl 0 rfl (bE _ _ (hS.drop 0).dlt h (IntKind.i64.wrap (m+1)) _ _ (hS.boxRow 0 rfl) (hS.notin 0 rfl) (aE.lent (i:=0) rfl (hS.get 0 rfl)) _ D) fun _ w hR hk=>?_);obtain⟨N,he,hrow,A⟩:=hR;obtain rfl:=he.symm;refine⟨(bk M.2 N),hrow,fun a hS=>?_⟩;replace hS:=hS.fS (aE.back (i:=0) rfl A);refine ai hS fun a hS=>?_;replace hS:=hS.nilRow ad 46 (by decide);obtain⟨Y,Q,hMo1⟩:=bd hM;refine bF _ (fun s a w=>∃ (g:LC) (l:Int) (e:LN) (f:Int) (u:Value) (p:LV) (z:Value),(g,l,e,f)=s∧St W0 (fun k=>k=d) T 21 [(0,pt d 0),(5,u),(6,al l)] [ba u p,.box d [z,al f] 64] [an ad p g,aR (aY.int .i64) z e,bC] a w) Q ⟨_,_,_,_,_,_,_,rfl,hS.mt [0,1] [0,1,3]⟩ ?_;rintro s a w W ⟨g,l,e,f,u,p,z,rfl,hS⟩ hM hf1;have hM:nb g l e f=some W:=hM;unfold nb at hM;refine aD ?_;refine ai hS fun a hS=>?_;rcases cd hM with⟨H,hM⟩|⟨H,hM⟩
  ·refine ai hS fun a hS=>?_;refine aD ?_;refine ai hS fun a hS=>?_;obtain⟨b,C,hM⟩:=bd hM;refine wl rfl (cC hS Pg rfl rfl 1 rfl (A5 _ _ (hS.drop 1).dlt (aX.mk e f) _ _ (hS.boxRow 1 rfl) (hS.notin 1 rfl) (aE.lent (i:=1) rfl (hS.get 1 rfl)) (bC.keep (hS.get 2 rfl) (au _ _) (fun k hk=>.inl ((qb (i:=1) rfl k).1 hk))) _ C) fun _ w hR hk=>?_);obtain⟨O,he,hrow,B⟩:=hR;obtain rfl:=he.symm;refine⟨(bk b.2 O),hrow,fun a hS=>?_⟩;replace hS:=hS.fS (aE.back (i:=1) rfl B);refine wl rfl (a8 (ps:=[(0,.tmp 17)]) hS qc ir (zl:=[al 0,aO bI,aO bI]) (by kernel_rfl) rfl (us:=[(gt b.1)]) ⟨rfl,trivial⟩ (ws:=(gt b.1)) rfl rfl rfl rfl fun U a w hk hS=>?_);replace hS:=(hS.lit (R:=ad) (us:=(gt b.1)) (xs:=[(am.mk (ah.mk b.1.Key.Kind b.1.Key.Text) b.1.Value)]) 0 rfl (by decide) (aA.one_ (R:=ad) (x:=(am.mk (ah.mk b.1.Key.Kind b.1.Key.Text) b.1.Value)) rfl) rfl rfl).freeze (R:=ad) 0 rfl 0 rfl;obtain⟨I,hM⟩:=be hM;refine wl rfl (bM (R:=ad) (xs:=g) (ys:=[(am.mk (ah.mk b.1.Key.Kind b.1.Key.Text) b.1.Value)]) hS qc (by decide) (by decide) rfl rfl 0 rfl 3 rfl 0 rfl I rfl fun X V a w hk hS=>?_);exact fz
  refine ai hS fun a hS=>?_;cases hM
  have hr:=hf1 _ rfl;subst hr;have hM:na g e f=some y:=hMo1;exact⟨_,_,_,_,_,_,hS.mt [0,1] [0,1,2],hM⟩
 rintro a w ⟨t,q,r,n,j,o,hS,hM⟩;unfold na at hM;refine ai hS fun a hS=>?_;cases hM
 refine aI hS rfl (aq hS rfl aH) ?_;exact⟨n,j,o,rfl,hS.retOwnm ⟨.inr (a6 (i:=0) rfl),⟨.inr (a6 (i:=1) rfl),trivial⟩⟩ 0 rfl 0 rfl 1 rfl (by decide),hS.boxRow 1 rfl,(aE.up ⟨.inr (a6 (i:=0) rfl),⟨.inr (a6 (i:=1) rfl),trivial⟩⟩ (hS.get 1 rfl))⟩
def lH (b:Int) (c:Int):Option (Int×Int):=some ((b,c))
def fH (c:LU) (f:Int) (b:Int):Option (Fl (Int) (Int)):=(bu c f).bind fun d=>cond d.Ring (cond (decide (b<(c.length:Int))) ((bu c b).bind fun e=>cond e.Ring (some (.go (IntKind.i64.wrap (b+1)))) (some (.out b))) (some (.out b))) (some (.out b))
def lI (b:LU) (c:Int) (d:Int):Option (Int×Int):=(loop (fun s:Int=>fH b c s) (IntKind.i64.wrap (c+1))).bind fun r=>lH d r
def fJ (c:LU) (f:Int) (b:Int):Option (Fl (Int) (Int)):=(bu c f).bind fun d=>cond d.Ring (cond (decide ((0:Int)<b)) ((bu c (IntKind.i64.wrap (b-1))).bind fun e=>cond e.Ring (some (.go (IntKind.i64.wrap (b-1)))) (some (.out b))) (some (.out b))) (some (.out b))
def nS (b:LU) (c:Int):Option (Int×Int):=cond (decide (c<0)) (some ((0,0))) (cond (decide ((b.length:Int)≤c)) (some ((0,0))) ((loop (fun s:Int=>fJ b c s) c).bind fun r=>lI b c r))
theorem vV (T:Nat→Prop) (W0:World) (hT:TW T W0) (b:LU) (c:Int) (g:Value) (G:aE aC T W0 g b) (y:Int×Int) (hM:nS b c=some y):bj aP No 53 [g,al c] W0 (fun v w'=>v = .tuple #[al y.1,al y.2]):=by
 refine en Tryz.func53 Tryz.ntmps53 hT fun a hS=>?_;replace hS:=hS.fS (aE.dn G);unfold nS at hM;refine ai hS fun a hS=>?_;refine aD ?_;refine iY ?_;refine ai hS fun a hS=>?_;rcases cd hM with⟨x,hM⟩|⟨x,hM⟩
 ·refine ai hS fun a hS=>?_;cases hM
  refine aI hS Tryz.results53 (aq hS rfl (aq hS rfl aH)) ?_;exact rfl
 refine ai hS fun a hS=>?_;rcases cd hM with⟨z,hM⟩|⟨z,hM⟩
 ·refine ai hS fun a hS=>?_;cases hM
  refine aI hS Tryz.results53 (aq hS rfl (aq hS rfl aH)) ?_;exact rfl
 refine ai hS fun a hS=>?_;refine aK (J:=fun a w=>∃ (d:Int),St W0 No T 60 [(0,g),(1,al c),(6,al d),(7,al (IntKind.i64.wrap (c+1)))] [] [aR aC g b] a w∧lI b c d=some y) ?_ ?_
 ·skip;refine ai hS fun a hS=>?_;obtain⟨r1,k,hMo1⟩:=bd hM;refine bF _ (fun s a w=>∃ (e:Int),e=s∧St W0 No T 60 [(0,g),(1,al c),(6,al e),(7,al (IntKind.i64.wrap (c+1)))] [] [aR aC g b] a w) k ⟨_,rfl,hS.mt [] [0]⟩ ?_;rintro s a w u ⟨e,rfl,hS⟩ hM hf1;have hM:fJ b c e=some u:=hM;unfold fJ at hM;refine aD ?_;refine iY ?_;refine ai hS fun a hS=>?_;obtain⟨U,n,hM⟩:=bd hM;refine wl rfl (bm (R:=aC) hS yk xA rfl rfl 0 rfl n rfl fun H W M A a hS=>?_);obtain⟨a1,rfl,p⟩:=A;replace hS:=hS.fS p;refine ai hS fun a hS=>?_;rcases cd hM with⟨B,hM⟩|⟨B,hM⟩
  ·refine ai hS fun a hS=>?_;rcases cd hM with⟨i,hM⟩|⟨i,hM⟩
   ·refine ai hS fun a hS=>?_;obtain⟨V,o,hM⟩:=bd hM;refine wg hS rfl rfl rfl i (bm (R:=aC) hS yk xA rfl rfl 2 rfl o rfl fun I X N C a hS=>?_);obtain⟨a2,rfl,q⟩:=C;replace hS:=hS.fS q;exact fz
   exact fz
  exact fz
 rintro a w ⟨d,hS,hM⟩;unfold lI at hM;refine aK (J:=fun a w=>∃ (h:Int),St W0 No T 60 [(6,al d),(7,al h)] [] [] a w∧lH d h=some y) ?_ ?_
 ·skip;refine ai hS fun a hS=>?_;obtain⟨r1,k,hMo1⟩:=bd hM;refine bF _ (fun s a w=>∃ (f:Int),f=s∧St W0 No T 60 [(0,g),(1,al c),(6,al d),(7,al f)] [] [aR aC g b] a w) k ⟨_,rfl,hS.mt [] [0]⟩ ?_;rintro s a w u ⟨f,rfl,hS⟩ hM hf1;have hM:fH b c f=some u:=hM;unfold fH at hM;refine aD ?_;refine iY ?_;refine ai hS fun a hS=>?_;obtain⟨Q,l,hM⟩:=bd hM;refine wl rfl (bm (R:=aC) hS yk xA rfl rfl 0 rfl l rfl fun K Y O D a hS=>?_);obtain⟨a3,rfl,r⟩:=D;replace hS:=hS.fS r;refine ai hS fun a hS=>?_;rcases cd hM with⟨E,hM⟩|⟨E,hM⟩
  ·refine ai hS fun a hS=>?_;rcases cd hM with⟨j,hM⟩|⟨j,hM⟩
   ·refine ai hS fun a hS=>?_;obtain⟨S,m,hM⟩:=bd hM;refine wg hS rfl rfl rfl j (bm (R:=aC) hS yk xA rfl rfl 2 rfl m rfl fun L Z P F a hS=>?_);obtain⟨a4,rfl,t⟩:=F;replace hS:=hS.fS t;exact fz
   exact fz
  exact fz
 rintro a w ⟨h,hS,hM⟩;unfold lH at hM;refine ai hS fun a hS=>?_;cases hM
 refine aI hS Tryz.results53 (aq hS rfl (aq hS rfl aH)) ?_;exact rfl
def mI (d:LU) (b:LN) (c:Int):Option (LU×aX):=some ((d,(aX.mk b c)))
def pO (d:Int) (e:LU) (b:LN) (c:Int):Option (Fl (LU×Int×LN×Int) (LU×LN×Int)):=some (.go (e,IntKind.i64.wrap (d+1),b,c))
def mJ (c:LU) (b:Int) (f:Bool) (g:Int) (h:Int) (d:LN) (e:Int) (i:(List dA)):Option (Fl (LU×Int×LN×Int) (LU×LN×Int)):=(bu c b).bind fun j=>pO b (c.set (Int.toNat b) (aW.mk f i g h)) d e
def pP (d:Int) (b:LN) (c:Int) (e:(List dA)):Option (Fl (Int×LN×Int×(List dA)) (LN×Int×(List dA))):=some (.go (IntKind.i64.wrap (d-1),b,c,e))
def kT (i:Int) (b:(List dA)) (c:Bool) (d:Int) (g:LN) (h:Int) (e:Bool) (f:Int):Option (Fl (Int×LN×Int×(List dA)) (LN×Int×(List dA))):=gd (bH (b.length+([(dA.mk c e d f)]).length)) <| pP i g h (b++([(dA.mk c e d f)]))
def je (e:Int) (f:(List dA)) (g:Bool) (j:Int) (h:Int) (i:Bool) (c:LN) (d:Int):Option (Fl (Int×LN×Int×(List dA)) (LN×Int×(List dA))):=cond i ((cg (aX.mk c d) j).bind fun b=>kT e f g h b.2.L b.2.At true b.1) (kT e f g h c d false 0)
def kU (j:Bool) (e:Int) (b:(List dA)) (h:Bool) (f:Int) (c:LN) (d:Int) (i:Int):Option (Fl (Int×LN×Int×(List dA)) (LN×Int×(List dA))):=cond (!(j)) (cond (decide ((0:Int)<(b.length:Int))) ((cg (aX.mk c d) 3).bind fun g=>je e b h f i (g.1==1) g.2.L g.2.At) (je e b h f i false c d)) (je e b h f i false c d)
def kV (g:Bool) (f:Int) (h:(List dA)) (i:Bool) (b:Int) (k:(Int×aX)) (j:Bool) (d:LN) (e:Int):Option (Fl (Int×LN×Int×(List dA)) (LN×Int×(List dA))):=cond j ((cg (aX.mk d e) (min b 3)).bind fun c=>kU g f h i b c.2.L c.2.At (IntKind.i64.wrap ((IntKind.i64.wrap (b-1))-c.1))) (kU g f h i b d e k.1)
def kW (g:Bool) (f:Int) (h:(List dA)) (i:LN) (j:Int) (e:Bool) (c:Int):Option (Fl (Int×LN×Int×(List dA)) (LN×Int×(List dA))):=(cg (aX.mk i j) c).bind fun b=>cond (!(e)) ((cg (aX.mk b.2.L b.2.At) 2).bind fun d=>kV g f h e c b (d.1==0) d.2.L d.2.At) (kV g f h e c b false b.2.L b.2.At)
def jE (h:Int) (f:Bool) (e:Int) (g:(List dA)) (c:LN) (d:Int) (b:Bool):Option (Fl (Int×LN×Int×(List dA)) (LN×Int×(List dA))):=cond b (kW f e g c d b 4) (kW f e g c d b h)
def jH (c:Int) (h:Bool) (d:Int) (f:LN) (g:Int) (e:(List dA)):Option (Fl (Int×LN×Int×(List dA)) (LN×Int×(List dA))):=cond (decide ((0:Int)<d)) ((cg (aX.mk f g) 3).bind fun b=>cond (b.1==0) (jE c h d e b.2.L b.2.At true) (jE c h d e b.2.L b.2.At (c==0))) (some (.out (f,g,e)))
def jF (h:LU) (g:Int) (d:Int) (c:Bool) (e:LN) (f:Int) (i:Int) (j:Int):Option (Fl (LU×Int×LN×Int) (LU×LN×Int)):=(cg (aX.mk e f) 4).bind fun b=>(loop (fun s:Int×LN×Int×(List dA)=>jH d c s.1 s.2.1 s.2.2.1 s.2.2.2) (b.1,b.2.L,b.2.At,([]:List dA))).bind fun r=>mJ h g c i j r.1 r.2.1 r.2.2
def ot (h:LU) (g:Int) (d:Int) (e:LN) (f:Int) (b:Bool) (j:Int) (k:Int):Option (Fl (LU×Int×LN×Int) (LU×LN×Int)):=cond b ((cg (aX.mk e f) 6).bind fun c=>(bu ([0,1,2,4,8,16]) c.1).bind fun i=>jF h g d b c.2.L c.2.At 5 i) (jF h g d b e f j k)
def jG (e:LU) (d:Int) (g:LN) (h:Int) (f:Int):Option (Fl (LU×Int×LN×Int) (LU×LN×Int)):=(bu e d).bind fun i=>(cg (aX.mk g h) 4).bind fun b=>(cg (aX.mk b.2.L b.2.At) 6).bind fun c=>ot e d f c.2.L c.2.At i.Ring (IntKind.i64.wrap (1+b.1)) c.1
def jI (h:LU) (c:LU) (b:Int) (d:LN) (e:Int):Option (Fl (LU×Int×LN×Int) (LU×LN×Int)):=cond (decide (b<(h.length:Int))) ((nS c b).bind fun f=>(bu c b).bind fun g=>cond (!(g.Ring)) (jG c b d e f.1) (jG c b d e f.2)) (some (.out (c,d,e)))
def lC (b:LU) (c:LN) (d:Int):Option (LU×aX):=(loop (fun s:LU×Int×LN×Int=>jI b s.1 s.2.1 s.2.2.1 s.2.2.2) (b,0,c,d)).bind fun r=>mI r.1 r.2.1 r.2.2
def ou (c:LU) (f:Int) (d:LN) (e:Int):Option (Fl (LU×Int×LN×Int) (LU×LN×Int)):=cond (decide ((0:Int)<f)) ((cg (aX.mk d e) 3).bind fun b=>gd (bH (c.length+([(aW.mk (b.1==1) ([]) 0 0)]).length)) <| some (.go ((c++([(aW.mk (b.1==1) ([]) 0 0)])),IntKind.i64.wrap (f-1),b.2.L,b.2.At))) (some (.out (c,d,e)))
def rT (c:aX):Option (LU×aX):=(cg c 7).bind fun b=>(loop (fun s:LU×Int×LN×Int=>ou s.1 s.2.1 s.2.2.1 s.2.2.2) (([]:List aW),IntKind.i64.wrap (2+b.1),b.2.L,b.2.At)).bind fun r=>lC r.1 r.2.1 r.2.2
theorem Cy (T:Nat→Prop) (W0:World) (hT:TW T W0) (bt:aX) (v2:Value) (e:Nat) (l2:W0.heap[e]? = some (.cells (bk bt v2).toArray 64 (0,0))) (i0:¬ T e) (lb:aE (aY.int .i64) (dT T [.box e (bk bt v2) 64]) W0 v2 bt.L) (y:LU×aX) (hM:rT bt=some y):bj aP (fun k=>k=e) 30 [pt e 0] W0 (fun v w'=>∃ (v3:Value) (sI:bv) (v5:Value),v=v3∧gg aC T W0 w' [cm v3 sI,.box e (bk y.2 v5) 64] 89 v3 sI y.1∧w'.heap[e]? = some (.cells (bk y.2 v5).toArray 64 (0,0))∧aE (aY.int .i64) (dT T [cm v3 sI,.box e (bk y.2 v5) 64]) w' v5 y.2.L):=by
 refine sK (c:=_) Tryz.func30 rfl T 132 Tryz.ntmps30 hT rfl l2 i0 fun a hS=>?_;replace hS:=hS.fS lb;unfold rT at hM;refine ai hS fun a hS=>?_;refine aK (J:=fun a w=>∃ (q:LU) (d2:LN) (d3:Int) (d:Value) (c1:LV) (e2:Value),St W0 (fun k=>k=e) T 132 [(0,pt e 0),(3,d)] [cm d c1,.box e [e2,al d3] 64] [an aC c1 q,aR (aY.int .i64) e2 d2] a w∧lC q d2 d3=some y) ?_ ?_
 ·skip;refine ai hS fun a hS=>?_;obtain⟨ih,ha,hM⟩:=bd hM;refine wl rfl (cC hS nB rfl rfl 0 rfl (bE _ _ (hS.drop 0).dlt bt 7 _ _ (hS.boxRow 0 rfl) (hS.notin 0 rfl) (aE.lent (i:=0) rfl (hS.get 0 rfl)) _ ha) fun _ w hR hk=>?_);obtain⟨ii,he,hrow,fn⟩:=hR;obtain rfl:=he.symm;refine⟨(bk ih.2 ii),hrow,fun a hS=>?_⟩;replace hS:=hS.fS (aE.back (i:=0) rfl fn);refine ai hS fun a hS=>?_;replace hS:=hS.nilRow aC 89 (by decide);obtain⟨r1,gi,hMo1⟩:=bd hM;refine bF _ (fun s a w=>∃ (Z:LU) (b9:Int) (W:LN) (X:Int) (e3:Value) (c2:LV) (e4:Value),(Z,b9,W,X)=s∧St W0 (fun k=>k=e) T 132 [(0,pt e 0),(3,e3),(4,al b9)] [cm e3 c2,.box e [e4,al X] 64] [an aC c2 Z,aR (aY.int .i64) e4 W] a w) gi ⟨_,_,_,_,_,_,_,rfl,hS.mt [0,1] [0,1]⟩ ?_;rintro s a w f1 ⟨Z,b9,W,X,e3,c2,e4,rfl,hS⟩ hM hf1;have hM:ou Z b9 W X=some f1:=hM;unfold ou at hM;refine aD ?_;refine ai hS fun a hS=>?_;rcases cd hM with⟨hq,hM⟩|⟨hq,hM⟩
  ·refine ai hS fun a hS=>?_;refine aD ?_;refine ai hS fun a hS=>?_;obtain⟨I,h9,hM⟩:=bd hM;refine wl rfl (cC hS nB rfl rfl 1 rfl (bE _ _ (hS.drop 1).dlt (aX.mk W X) 3 _ _ (hS.boxRow 1 rfl) (hS.notin 1 rfl) (aE.lent (i:=1) rfl (hS.get 1 rfl)) _ h9) fun _ w hR hk=>?_);obtain⟨jb,he,hrow,fr⟩:=hR;obtain rfl:=he.symm;refine⟨(bk I.2 jb),hrow,fun a hS=>?_⟩;replace hS:=hS.fS (aE.back (i:=1) rfl fr);refine ai hS fun a hS=>?_;refine qy hS (bq (ps:=[(0,.tmp 22)]) hS Ko y0 rfl (us:=[[.bool (I.1==1)]]) ⟨rfl,trivial⟩ (ws:=[.bool (I.1==1),.slice none 0 0,al 0,al 0]) rfl) fun a hS=>?_;refine wl rfl (a8 (ps:=[(0,.tmp 23)]) hS JP y0 (zl:=[.bool false,.slice none 0 0,al 0,al 0]) (by kernel_rfl) rfl (us:=[[.bool (I.1==1),.slice none 0 0,al 0,al 0]]) ⟨rfl,trivial⟩ (ws:=[.bool (I.1==1),.slice none 0 0,al 0,al 0]) rfl rfl rfl rfl fun le a w hk hS=>?_);replace hS:=(hS.lit (R:=aC) (us:=[.bool (I.1==1),.slice none 0 0,al 0,al 0]) (xs:=[(aW.mk (I.1==1) ([]) 0 0)]) 0 rfl (by decide) (aA.one_ (R:=aC) (x:=(aW.mk (I.1==1) ([]) 0 0)) (⟨_,rfl,aE.nil_ _ _ _⟩)) rfl rfl).freeze (R:=aC) 0 rfl 0 rfl;obtain⟨hs,hM⟩:=be hM;refine wl rfl (bM (R:=aC) (xs:=Z) (ys:=[(aW.mk (I.1==1) ([]) 0 0)]) hS JP (by decide) (by decide) rfl rfl 0 rfl 3 rfl 0 rfl hs rfl fun np m2 a w hk hS=>?_);exact fz
  refine ai hS fun a hS=>?_;cases hM
  have hr:=hf1 _ rfl;subst hr;have hM:lC Z W X=some y:=hMo1;exact⟨_,_,_,_,_,_,hS.mt [0,1] [0,1],hM⟩
 rintro a w ⟨q,d2,d3,d,c1,e2,hS,hM⟩;unfold lC at hM;refine aK (J:=fun a w=>∃ (dc:LU) (c9:LN) (ca:Int) (ak:LV) (bl:Value),St W0 (fun k=>k=e) T 132 [(3,d)] [cm d ak,.box e [bl,al ca] 64] [an aC ak dc,aR (aY.int .i64) bl c9] a w∧mI dc c9 ca=some y) ?_ ?_
 ·skip;refine ai hS fun a hS=>?_;obtain⟨r1,gi,hMo1⟩:=bd hM;refine bF _ (fun s a w=>∃ (h:LU) (b:Int) (G:LN) (H:Int) (g:LV) (af:Value),(h,b,G,H)=s∧St W0 (fun k=>k=e) T 132 [(0,pt e 0),(3,d),(27,al (q.length:Int)),(28,al b)] [cm d g,.box e [af,al H] 64] [an aC g h,aR (aY.int .i64) af G] a w) gi ⟨_,_,_,_,_,_,rfl,hS.mt [0,1] [0,1]⟩ ?_;rintro s a w f1 ⟨h,b,G,H,g,af,rfl,hS⟩ hM hf1;have hM:jI q h b G H=some f1:=hM;unfold jI at hM;refine ai hS fun a hS=>?_;refine aD ?_;rcases cd hM with⟨ht,hM⟩|⟨ht,hM⟩
  ·refine ai hS fun a hS=>?_;refine aK (J:=fun a w=>∃ (dk:LU) (cb:LN) (ch:Int) (c3:LV) (e5:Value),St W0 (fun k=>k=e) T 132 [(0,pt e 0),(3,d),(27,al (q.length:Int)),(28,al b)] [cm d c3,.box e [e5,al ch] 64] [an aC c3 dk,aR (aY.int .i64) e5 cb] a w∧pO b dk cb ch=some f1) ?_ ?_
   ·skip;refine ai hS fun a hS=>?_;have hL:=hS;replace hL:=hL.freeze (R:=aC) 0 rfl 0 rfl;obtain⟨no,h8,hM⟩:=bd hM;refine kc hS Oc (vV _ _ hL.dlt h b _ (hL.get 0 rfl) _ h8) fun _ w hR a hk hA=>?_;obtain rfl:=hR;have hS:=bY hA;refine ai hS fun a hS=>?_;refine aK (J:=fun a w=>∃ (n:Int),St W0 (fun k=>k=e) T 132 [(0,pt e 0),(3,d),(5,al b),(7,al n),(27,al (q.length:Int)),(28,al b)] [cm d g,.box e [af,al H] 64] [an aC g h,aR (aY.int .i64) af G] a w∧jG h b G H n=some f1) ?_ ?_
    ·skip;refine ai hS fun a hS=>?_;obtain⟨hp,h0,hM⟩:=bd hM;refine wl rfl (dj (R:=aC) hS yk xA rfl rfl 0 rfl 0 rfl h0 rfl fun ll n5 nd m3 hu hv hw a hS=>?_);obtain⟨ns,rfl,hc⟩:=hu;replace hS:=hS.fS hc;refine ai hS fun a hS=>?_;refine qy hS (ce (k:=0) hS M4 0 rfl hv hw rfl id (us:=[.bool hp.Ring]) rfl rfl (fun _=>rfl)) fun a hS=>?_;exact fz
    rintro a w ⟨n,hS,hM⟩;unfold jG at hM;refine aK (J:=fun a w=>∃ (a1:LN) (a2:Int) (m:Bool) (dn:Int) (ds:Int) (f:Nat) (e8:Value),St W0 (fun k=>k=e) T 132 [(0,pt e 0),(3,d),(5,al b),(7,al n),(8,pt f 0),(27,al (q.length:Int)),(28,al b)] [cm d g,.box e [e8,al a2] 64,.box f [.bool m,.slice none 0 0,al dn,al ds] 89] [an aC g h,aR (aY.int .i64) e8 a1] a w∧ot h b n a1 a2 m dn ds=some f1) ?_ ?_
    ·skip;obtain⟨N202,gs⟩:∃ N,N=w.heap.size:=⟨_,rfl⟩;replace hS:=hS.fact (Gi N202) (xF gs);refine dr [(6,.blk (some e)),(9,.blk (some e)),(12,.new N202)] hS fun w hQ hS=>?_;refine gE [0,1] hS fun a hS=>?_;obtain⟨F,gu,hM⟩:=bd hM;obtain⟨hi,i1,ng,m4,hx,da,hy,hz⟩:=mD (R:=aC) hS yk xA 0 rfl 1 rfl gu;obtain⟨ny,rfl,hd⟩:=hx;replace hS:=hS.fS hd;refine dy 2 (v:=pt hi i1) rfl (by kernel_rfl) (by kernel_rfl) (by kernel_rfl) rfl hQ hS (hz rfl rfl) rfl rfl rfl fun a hS=>?_;refine gE [3] hS fun a hS=>?_;refine dy (l:=[.blk (some e),.blk (some e)]) 4 (v:=.bool F.Ring) rfl (by kernel_rfl) (by kernel_rfl) (by kernel_rfl) (by kernel_rfl) hQ hS (ce (k:=0) hS M4 0 rfl da hy rfl (jZ hS 0 rfl (xe da) 1 rfl rfl (by decide) (jZ hS 0 rfl (xe da) 1 rfl rfl (by decide) bP)) (us:=[.bool F.Ring]) rfl rfl (fun _=>rfl)) rfl rfl rfl fun a hS=>?_;refine gE [5,8] hS fun a hS=>?_;obtain⟨t,f3,hM⟩:=bd hM;refine eh (i:=6) (j:=11) rfl rfl (by kernel_rfl) rfl rfl ?_ ?_
     ·skip;skip;refine id (cC hS nB rfl rfl 1 rfl (bE _ _ (hS.drop 1).dlt (aX.mk G H) 4 _ _ (hS.boxRow 1 rfl) (hS.notin 1 rfl) (aE.lent (i:=1) rfl (hS.get 3 rfl)) _ f3) fun _ w hR hk=>?_);obtain⟨js,he,hrow,fs⟩:=hR;obtain rfl:=he.symm;refine⟨(bk t.2 js),hrow,fun a hS=>⟨mx rfl hk kG,?_⟩⟩;replace hS:=hS.fS (aE.back (i:=1) rfl fs);refine gE [7] hS fun a hS=>?_;obtain⟨O,f4,hM⟩:=bd hM;refine eh (i:=9) (j:=11) rfl rfl (by kernel_rfl) rfl rfl ?_ ?_
      ·skip;skip;refine id (cC hS nB rfl rfl 1 rfl (bE _ _ (hS.drop 1).dlt (aX.mk t.2.L t.2.At) 6 _ _ (hS.boxRow 1 rfl) (hS.notin 1 rfl) (aE.lent (i:=1) rfl (hS.get 0 rfl)) _ f4) fun _ w hR hk=>?_);obtain⟨k0,he,hrow,fM⟩:=hR;obtain rfl:=he.symm;refine⟨(bk O.2 k0),hrow,fun a hS=>⟨mx rfl hk kG,?_⟩⟩;replace hS:=hS.fS (aE.back (i:=1) rfl fM);refine dy 10 (v:=.agg #[.bool F.Ring,.slice none 0 0,al (IntKind.i64.wrap (1+t.1)),al O.1]) rfl (by kernel_rfl) (by kernel_rfl) (by kernel_rfl) rfl hQ hS (bq (ps:=[(0,.tmp 48),(2,.tmp 51),(3,.tmp 53)]) hS Ko y0 rfl (us:=[[.bool F.Ring],[al (IntKind.i64.wrap (1+t.1))],[al O.1]]) ⟨rfl,⟨rfl,⟨rfl,trivial⟩⟩⟩ (ws:=[.bool F.Ring,.slice none 0 0,al (IntKind.i64.wrap (1+t.1)),al O.1]) rfl) rfl rfl rfl fun a hS=>?_;have hB:=(hS.get 3 rfl:N202≤w.heap.size);refine e1 11 (dd hS y0 rfl fun hj hC a w hk hS=>⟨gf (hk),?_⟩);refine dt 12 (.blk (some hj)) _ (by kernel_rfl) (n4 (fB hB hC)) ?_;refine es 12 hS fun w hS=>?_;refine eD ?_;exact⟨_,_,_,_,_,_,_,hS.mt [1,2,0] [4,0],hM⟩
      skip;have hD:=(hS.get 2 rfl:N202≤w.heap.size);refine id (dd hS y0 rfl fun hl hE a w hk hS=>⟨gf (hk),?_⟩);refine dt 12 (.blk (some hl)) _ (by kernel_rfl) (n4 (fB hD hE)) ?_;refine e1 9 (cC hS nB rfl rfl 2 rfl (bE _ _ (hS.drop 2).dlt (aX.mk t.2.L t.2.At) 6 _ _ (hS.boxRow 2 rfl) (hS.notin 2 rfl) (aE.lent (i:=2) rfl (hS.get 0 rfl)) _ f4) fun _ w hR hk=>?_);obtain⟨ea,he,hrow,a5⟩:=hR;obtain rfl:=he.symm;refine⟨(bk O.2 ea),hrow,fun a hS=>⟨mx rfl hk kG,?_⟩⟩;replace hS:=hS.fS (aE.back (i:=2) rfl a5);refine dy 10 (v:=.agg #[.bool F.Ring,.slice none 0 0,al (IntKind.i64.wrap (1+t.1)),al O.1]) rfl (by kernel_rfl) (by kernel_rfl) (by kernel_rfl) rfl hQ hS (bq (ps:=[(0,.tmp 48),(2,.tmp 51),(3,.tmp 53)]) hS Ko y0 rfl (us:=[[.bool F.Ring],[al (IntKind.i64.wrap (1+t.1))],[al O.1]]) ⟨rfl,⟨rfl,⟨rfl,trivial⟩⟩⟩ (ws:=[.bool F.Ring,.slice none 0 0,al (IntKind.i64.wrap (1+t.1)),al O.1]) rfl) rfl rfl rfl fun a hS=>?_;refine es 12 hS fun w hS=>?_;refine eD ?_;exact⟨_,_,_,_,_,_,_,hS.mt [1,2,0] [4,0],hM⟩
     skip;have hF:=(hS.get 1 rfl:N202≤w.heap.size);refine id (dd hS y0 rfl fun hm hG a w hk hS=>⟨gf (hk),?_⟩);refine dt 12 (.blk (some hm)) _ (by kernel_rfl) (n4 (fB hF hG)) ?_;refine e1 6 (cC hS nB rfl rfl 2 rfl (bE _ _ (hS.drop 2).dlt (aX.mk G H) 4 _ _ (hS.boxRow 2 rfl) (hS.notin 2 rfl) (aE.lent (i:=2) rfl (hS.get 3 rfl)) _ f3) fun _ w hR hk=>?_);obtain⟨k1,he,hrow,g0⟩:=hR;obtain rfl:=he.symm;refine⟨(bk t.2 k1),hrow,fun a hS=>⟨mx rfl hk kG,?_⟩⟩;replace hS:=hS.fS (aE.back (i:=2) rfl g0);refine gE [7] hS fun a hS=>?_;obtain⟨bi,hb,hM⟩:=bd hM;refine e1 9 (cC hS nB rfl rfl 2 rfl (bE _ _ (hS.drop 2).dlt (aX.mk t.2.L t.2.At) 6 _ _ (hS.boxRow 2 rfl) (hS.notin 2 rfl) (aE.lent (i:=2) rfl (hS.get 0 rfl)) _ hb) fun _ w hR hk=>?_);obtain⟨ea,he,hrow,a5⟩:=hR;obtain rfl:=he.symm;refine⟨(bk bi.2 ea),hrow,fun a hS=>⟨mx rfl hk kG,?_⟩⟩;replace hS:=hS.fS (aE.back (i:=2) rfl a5);refine dy 10 (v:=.agg #[.bool F.Ring,.slice none 0 0,al (IntKind.i64.wrap (1+t.1)),al bi.1]) rfl (by kernel_rfl) (by kernel_rfl) (by kernel_rfl) rfl hQ hS (bq (ps:=[(0,.tmp 48),(2,.tmp 51),(3,.tmp 53)]) hS Ko y0 rfl (us:=[[.bool F.Ring],[al (IntKind.i64.wrap (1+t.1))],[al bi.1]]) ⟨rfl,⟨rfl,⟨rfl,trivial⟩⟩⟩ (ws:=[.bool F.Ring,.slice none 0 0,al (IntKind.i64.wrap (1+t.1)),al bi.1]) rfl) rfl rfl rfl fun a hS=>?_;refine es 12 hS fun w hS=>?_;refine eD ?_;exact⟨_,_,_,_,_,_,_,hS.mt [1,2,0] [4,0],hM⟩
    rintro a w ⟨a1,a2,m,dn,ds,f,e8,hS,hM⟩;unfold ot at hM;refine aK (J:=fun a w=>∃ (b5:LN) (b6:Int) (u:Int) (z:Int) (ed:Value),St W0 (fun k=>k=e) T 132 [(0,pt e 0),(3,d),(5,al b),(7,al n),(8,pt f 0),(27,al (q.length:Int)),(28,al b)] [cm d g,.box e [ed,al b6] 64,.box f [.bool m,.slice none 0 0,al u,al z] 89] [an aC g h,aR (aY.int .i64) ed b5] a w∧jF h b n m b5 b6 u z=some f1) ?_ ?_
    ·skip;refine ai hS fun a hS=>?_;rcases cd hM with⟨hH,hM⟩|⟨hH,hM⟩
     ·refine ai hS fun a hS=>?_;refine dr [(2,.blk (some e)),(6,.blk (some f)),(8,.blk (some f))] hS fun w hQ hS=>?_;refine gE [1,5] hS fun a hS=>?_;obtain⟨gp,eX,hM⟩:=bd hM;refine eh (i:=0) (j:=2) rfl rfl (by kernel_rfl) rfl rfl ?_ ?_
      ·skip;skip;refine id (a8 (ps:=[(0,.const (al 0)),(1,.const (al 1)),(2,.const (al 2)),(3,.const (al 4)),(4,.const (al 8)),(5,.const (al 16))]) hS JO O1 (zl:=[al 0,al 0,al 0,al 0,al 0,al 0]) (by kernel_rfl) rfl (us:=[[al 0],[al 1],[al 2],[al 4],[al 8],[al 16]]) ⟨rfl,⟨rfl,⟨rfl,⟨rfl,⟨rfl,⟨rfl,trivial⟩⟩⟩⟩⟩⟩ (ws:=[al 0,al 1,al 2,al 4,al 8,al 16]) rfl rfl rfl rfl fun ls a w hk hS=>⟨gf (hk),?_⟩);refine e1 2 (cC hS nB rfl rfl 2 rfl (bE _ _ (hS.drop 2).dlt (aX.mk a1 a2) 6 _ _ (hS.boxRow 2 rfl) (hS.notin 2 rfl) (aE.lent (i:=2) rfl (hS.get 1 rfl)) _ eX) fun _ w hR hk=>?_);obtain⟨k2,he,hrow,g1⟩:=hR;obtain rfl:=he.symm;refine⟨(bk gp.2 k2),hrow,fun a hS=>⟨mx rfl hk kG,?_⟩⟩;replace hS:=((hS.fS (aE.back (i:=2) rfl g1)).lit (R:=(aY.int .i64)) (us:=[al 0,al 1,al 2,al 4,al 8,al 16]) (xs:=[0,1,2,4,8,16]) 0 rfl (by decide) ((aA.one_ (R:=(aY.int .i64)) (x:=0) rfl).append ((aA.one_ (R:=(aY.int .i64)) (x:=1) rfl).append ((aA.one_ (R:=(aY.int .i64)) (x:=2) rfl).append ((aA.one_ (R:=(aY.int .i64)) (x:=4) rfl).append ((aA.one_ (R:=(aY.int .i64)) (x:=8) rfl).append (aA.one_ (R:=(aY.int .i64)) (x:=16) rfl)))))) rfl rfl).freeze (R:=(aY.int .i64)) 0 rfl 0 rfl;obtain⟨Y,P,hM⟩:=bd hM;obtain⟨a0,a9,f6,a3,a4,hS⟩:=jj (R:=(aY.int .i64)) hS G5 CM 0 rfl P;obtain rfl:=a3;refine dy 3 (v:=pt a0 a9) rfl (by kernel_rfl) (by kernel_rfl) (by kernel_rfl) rfl hQ hS (a4 rfl rfl) rfl rfl rfl fun a hS=>?_;refine dy (l:=[.blk (some f)]) 4 (v:=al Y) rfl (by kernel_rfl) (by kernel_rfl) (by kernel_rfl) (by kernel_rfl) hQ hS (xD (k:=0) hS CM 0 rfl rfl (Lg 2 rfl rfl EH) (us:=[al Y]) rfl rfl (fun _=>rfl)) rfl rfl rfl fun a hS=>?_;refine es 6 hS fun w hS=>?_;refine gE [7] hS fun a hS=>?_;refine es 8 hS fun w hS=>?_;refine eD ?_;exact⟨_,_,_,_,_,hS.mt [0,1,2] [4,3],hM⟩
      skip;refine id (cC hS nB rfl rfl 1 rfl (bE _ _ (hS.drop 1).dlt (aX.mk a1 a2) 6 _ _ (hS.boxRow 1 rfl) (hS.notin 1 rfl) (aE.lent (i:=1) rfl (hS.get 1 rfl)) _ eX) fun _ w hR hk=>?_);obtain⟨k3,he,hrow,g2⟩:=hR;obtain rfl:=he.symm;refine⟨(bk gp.2 k3),hrow,fun a hS=>⟨mx rfl hk kG,?_⟩⟩;replace hS:=hS.fS (aE.back (i:=1) rfl g2);refine eh (i:=0) (j:=6) rfl rfl (by kernel_rfl) rfl rfl ?_ ?_
      ·skip;skip;refine id (a8 (ps:=[(0,.const (al 0)),(1,.const (al 1)),(2,.const (al 2)),(3,.const (al 4)),(4,.const (al 8)),(5,.const (al 16))]) hS JO O1 (zl:=[al 0,al 0,al 0,al 0,al 0,al 0]) (by kernel_rfl) rfl (us:=[[al 0],[al 1],[al 2],[al 4],[al 8],[al 16]]) ⟨rfl,⟨rfl,⟨rfl,⟨rfl,⟨rfl,⟨rfl,trivial⟩⟩⟩⟩⟩⟩ (ws:=[al 0,al 1,al 2,al 4,al 8,al 16]) rfl rfl rfl rfl fun hn a w hk hS=>⟨gf (hk),?_⟩);replace hS:=(hS.lit (R:=(aY.int .i64)) (us:=[al 0,al 1,al 2,al 4,al 8,al 16]) (xs:=[0,1,2,4,8,16]) 0 rfl (by decide) ((aA.one_ (R:=(aY.int .i64)) (x:=0) rfl).append ((aA.one_ (R:=(aY.int .i64)) (x:=1) rfl).append ((aA.one_ (R:=(aY.int .i64)) (x:=2) rfl).append ((aA.one_ (R:=(aY.int .i64)) (x:=4) rfl).append ((aA.one_ (R:=(aY.int .i64)) (x:=8) rfl).append (aA.one_ (R:=(aY.int .i64)) (x:=16) rfl)))))) rfl rfl).freeze (R:=(aY.int .i64)) 0 rfl 0 rfl;obtain⟨Y,P,hM⟩:=bd hM;obtain⟨a0,a9,f6,a3,a4,hS⟩:=jj (R:=(aY.int .i64)) hS G5 CM 0 rfl P;obtain rfl:=a3;refine dy 3 (v:=pt a0 a9) rfl (by kernel_rfl) (by kernel_rfl) (by kernel_rfl) rfl hQ hS (a4 rfl rfl) rfl rfl rfl fun a hS=>?_;refine dy (l:=[.blk (some f)]) 4 (v:=al Y) rfl (by kernel_rfl) (by kernel_rfl) (by kernel_rfl) (by kernel_rfl) hQ hS (xD (k:=0) hS CM 0 rfl rfl (Lg 2 rfl rfl EH) (us:=[al Y]) rfl rfl (fun _=>rfl)) rfl rfl rfl fun a hS=>?_;refine es 6 hS fun w hS=>?_;refine gE [7] hS fun a hS=>?_;refine es 8 hS fun w hS=>?_;refine eD ?_;exact⟨_,_,_,_,_,hS.mt [0,1,2] [4,3],hM⟩
      skip;refine id (tR hS rfl rfl (us:=[al 5]) rfl CM 2 rfl rfl rfl (oc rfl on) fun w hk hS=>⟨mx rfl hk kG,?_⟩);refine e1 0 (a8 (ps:=[(0,.const (al 0)),(1,.const (al 1)),(2,.const (al 2)),(3,.const (al 4)),(4,.const (al 8)),(5,.const (al 16))]) hS JO O1 (zl:=[al 0,al 0,al 0,al 0,al 0,al 0]) (by kernel_rfl) rfl (us:=[[al 0],[al 1],[al 2],[al 4],[al 8],[al 16]]) ⟨rfl,⟨rfl,⟨rfl,⟨rfl,⟨rfl,⟨rfl,trivial⟩⟩⟩⟩⟩⟩ (ws:=[al 0,al 1,al 2,al 4,al 8,al 16]) rfl rfl rfl rfl fun hn a w hk hS=>⟨gf (hk),?_⟩);replace hS:=(hS.lit (R:=(aY.int .i64)) (us:=[al 0,al 1,al 2,al 4,al 8,al 16]) (xs:=[0,1,2,4,8,16]) 0 rfl (by decide) ((aA.one_ (R:=(aY.int .i64)) (x:=0) rfl).append ((aA.one_ (R:=(aY.int .i64)) (x:=1) rfl).append ((aA.one_ (R:=(aY.int .i64)) (x:=2) rfl).append ((aA.one_ (R:=(aY.int .i64)) (x:=4) rfl).append ((aA.one_ (R:=(aY.int .i64)) (x:=8) rfl).append (aA.one_ (R:=(aY.int .i64)) (x:=16) rfl)))))) rfl rfl).freeze (R:=(aY.int .i64)) 0 rfl 0 rfl;obtain⟨Y,P,hM⟩:=bd hM;obtain⟨a0,a9,f6,a3,a4,hS⟩:=jj (R:=(aY.int .i64)) hS G5 CM 0 rfl P;obtain rfl:=a3;refine dy 3 (v:=pt a0 a9) rfl (by kernel_rfl) (by kernel_rfl) (by kernel_rfl) rfl hQ hS (a4 rfl rfl) rfl rfl rfl fun a hS=>?_;refine gE [4,7] hS fun a hS=>?_;refine es 8 hS fun w hS=>?_;refine eD ?_;exact⟨_,_,_,_,_,hS.mt [0,1,2] [4,3],hM⟩
     exact fz
    rintro a w ⟨b5,b6,u,z,ed,hS,hM⟩;unfold jF at hM;refine aK (J:=fun a w=>∃ (ck:LN) (cl:Int) (bb:(List dA)) (bs:Value) (c4:LV) (eg:Value),St W0 (fun k=>k=e) T 132 [(0,pt e 0),(3,d),(5,al b),(8,pt f 0),(27,al (q.length:Int)),(28,al b)] [cm d g,.box e [eg,al cl] 64,xd bs c4,.box f [.bool m,bs,al u,al z] 89] [an aC g h,aR (aY.int .i64) eg ck,an ff c4 bb] a w∧mJ h b m u z ck cl bb=some f1) ?_ ?_
    ·skip;refine ai hS fun a hS=>?_;obtain⟨ib,h7,hM⟩:=bd hM;refine wl rfl (cC hS nB rfl rfl 1 rfl (bE _ _ (hS.drop 1).dlt (aX.mk b5 b6) 4 _ _ (hS.boxRow 1 rfl) (hS.notin 1 rfl) (aE.lent (i:=1) rfl (hS.get 1 rfl)) _ h7) fun _ w hR hk=>?_);obtain⟨k4,he,hrow,g3⟩:=hR;obtain rfl:=he.symm;refine⟨(bk ib.2 k4),hrow,fun a hS=>?_⟩;replace hS:=hS.fS (aE.back (i:=1) rfl g3);refine ai hS fun a hS=>?_;replace hS:=hS.nilRow ff 93 (by decide);obtain⟨r2,la,hMo2⟩:=bd hM;refine bF _ (fun s a w=>∃ (p:Int) (U:LN) (V:Int) (r:(List dA)) (B:Value) (A:LV) (ek:Value),(p,U,V,r)=s∧St W0 (fun k=>k=e) T 132 [(0,pt e 0),(3,d),(5,al b),(7,al n),(8,pt f 0),(9,al p),(27,al (q.length:Int)),(28,al b)] [cm d g,.box e [ek,al V] 64,xd B A,.box f [.bool m,B,al u,al z] 89] [an aC g h,aR (aY.int .i64) ek U,an ff A r] a w) la ⟨_,_,_,_,_,_,_,rfl,hS.mt [1,2,0,3] [2,1,0]⟩ ?_;rintro s a w f2 ⟨p,U,V,r,B,A,ek,rfl,hS⟩ hM hf2;have hM:jH n m p U V r=some f2:=hM;unfold jH at hM;refine aD ?_;refine ai hS fun a hS=>?_;rcases cd hM with⟨hI,hM⟩|⟨hI,hM⟩
     ·refine ai hS fun a hS=>?_;refine aK (J:=fun a w=>∃ (co:LN) (cv:Int) (dl:(List dA)) (el:Value) (c5:LV) (em:Value),St W0 (fun k=>k=e) T 132 [(0,pt e 0),(3,d),(5,al b),(7,al n),(8,pt f 0),(9,al p),(27,al (q.length:Int)),(28,al b)] [cm d g,.box e [em,al cv] 64,xd el c5,.box f [.bool m,el,al u,al z] 89] [an aC g h,aR (aY.int .i64) em co,an ff c5 dl] a w∧pP p co cv dl=some f2) ?_ ?_
      ·skip;refine ai hS fun a hS=>?_;refine aK (J:=fun a w=>∃ (Q:LN) (S:Int) (o:Bool) (C:Nat) (ag:Value),St W0 (fun k=>k=e) T 132 [(0,pt e 0),(3,d),(5,al b),(7,al n),(8,pt f 0),(9,al p),(10,pt C 0),(27,al (q.length:Int)),(28,al b)] [cm d g,.box e [ag,al S] 64,xd B A,.box f [.bool m,B,al u,al z] 89,.box C [.bool o,.bool false,al 0,al 0] 93] [an aC g h,aR (aY.int .i64) ag Q,an ff A r] a w∧jE n m p r Q S o=some f2) ?_ ?_
       ·skip;refine ai hS fun a hS=>?_;obtain⟨i9,h6,hM⟩:=bd hM;refine wl rfl (cC hS nB rfl rfl 1 rfl (bE _ _ (hS.drop 1).dlt (aX.mk U V) 3 _ _ (hS.boxRow 1 rfl) (hS.notin 1 rfl) (aE.lent (i:=1) rfl (hS.get 1 rfl)) _ h6) fun _ w hR hk=>?_);obtain⟨kk,he,hrow,g4⟩:=hR;obtain rfl:=he.symm;refine⟨(bk i9.2 kk),hrow,fun a hS=>?_⟩;replace hS:=hS.fS (aE.back (i:=1) rfl g4);refine ai hS fun a hS=>?_;rcases cd hM with⟨hJ,hM⟩|⟨hJ,hM⟩
        ·refine ai hS fun a hS=>?_;refine qy hS (bq (ps:=[(0,.tmp 76)]) hS Oz Ff rfl (us:=[[.bool true]]) ⟨rfl,trivial⟩ (ws:=[.bool true,.bool false,al 0,al 0]) rfl) fun a hS=>?_;refine ka hS Ff fun lt n1 a w hk hS=>?_;exact fz
        refine ai hS fun a hS=>?_;refine qy hS (bq (ps:=[(0,.tmp 76)]) hS Oz Ff rfl (us:=[[.bool (n==0)]]) ⟨rfl,trivial⟩ (ws:=[.bool (n==0),.bool false,al 0,al 0]) rfl) fun a hS=>?_;refine ka hS Ff fun lv n2 a w hk hS=>?_;exact fz
       rintro a w ⟨Q,S,o,C,ag,hS,hM⟩;unfold jE at hM;refine ai hS fun a hS=>?_;refine aK (J:=fun a w=>∃ (E:Int),St W0 (fun k=>k=e) T 132 [(0,pt e 0),(3,d),(5,al b),(7,al n),(8,pt f 0),(9,al p),(10,pt C 0),(11,al E),(27,al (q.length:Int)),(28,al b)] [cm d g,.box e [ag,al S] 64,xd B A,.box f [.bool m,B,al u,al z] 89,.box C [.bool o,.bool false,al 0,al 0] 93] [an aC g h,aR (aY.int .i64) ag Q,an ff A r] a w∧kW m p r Q S o E=some f2) ?_ ?_
       ·exact fz
       rintro a w ⟨E,hS,hM⟩;unfold kW at hM;refine ai hS fun a hS=>?_;obtain⟨ab,h3,hM⟩:=bd hM;refine wl rfl (cC hS nB rfl rfl 1 rfl (bE _ _ (hS.drop 1).dlt (aX.mk Q S) E _ _ (hS.boxRow 1 rfl) (hS.notin 1 rfl) (aE.lent (i:=1) rfl (hS.get 1 rfl)) _ h3) fun _ w hR hk=>?_);obtain⟨ks,he,hrow,g5⟩:=hR;obtain rfl:=he.symm;refine⟨(bk ab.2 ks),hrow,fun a hS=>?_⟩;replace hS:=hS.fS (aE.back (i:=1) rfl g5);refine go hS fun a w hS=>?_;refine aK (J:=fun a w=>∃ (b0:LN) (b2:Int) (D:Int) (eq:Value),St W0 (fun k=>k=e) T 132 [(0,pt e 0),(3,d),(5,al b),(7,al n),(8,pt f 0),(9,al p),(10,pt C 0),(11,al E),(27,al (q.length:Int)),(28,al b)] [cm d g,.box e [eq,al b2] 64,xd B A,.box f [.bool m,B,al u,al z] 89,.box C [.bool o,.bool false,al D,al 0] 93] [an aC g h,aR (aY.int .i64) eq b0,an ff A r] a w∧kU m p r o E b0 b2 D=some f2) ?_ ?_
       ·skip;refine aK (J:=fun a w=>∃ (d6:Bool) (b3:LN) (b4:Int) (er:Value),St W0 (fun k=>k=e) T 132 [(0,pt e 0),(3,d),(5,al b),(7,al n),(8,pt f 0),(9,al p),(10,pt C 0),(11,al E),(27,al (q.length:Int)),(28,al b),(92,.bool d6)] [cm d g,.box e [er,al b4] 64,xd B A,.box f [.bool m,B,al u,al z] 89,.box C [.bool o,.bool false,al ab.1,al 0] 93] [an aC g h,aR (aY.int .i64) er b3,an ff A r] a w∧kV m p r o E ab d6 b3 b4=some f2) ?_ ?_
        ·skip;refine ai hS fun a hS=>?_;rcases cd hM with⟨fd,hM⟩|⟨fd,hM⟩
         ·refine ai hS fun a hS=>?_;obtain⟨i5,h5,hM⟩:=bd hM;refine wg hS rfl rfl rfl fd (cC hS nB rfl rfl 1 rfl (bE _ _ (hS.drop 1).dlt (aX.mk ab.2.L ab.2.At) 2 _ _ (hS.boxRow 1 rfl) (hS.notin 1 rfl) (aE.lent (i:=1) rfl (hS.get 0 rfl)) _ h5) fun _ w hR hk=>?_);obtain⟨kt,he,hrow,g6⟩:=hR;obtain rfl:=he.symm;refine⟨(bk i5.2 kt),hrow,fun a hS=>?_⟩;replace hS:=hS.fS (aE.back (i:=1) rfl g6);exact fz
         exact fz
        rintro a w ⟨d6,b3,b4,er,hS,hM⟩;unfold kV at hM;rcases cd hM with⟨hK,hM⟩|⟨hK,hM⟩
        ·refine ai hS fun a hS=>?_;refine qy hS (I9 hS rfl rfl) fun a hS=>?_;obtain⟨i4,h4,hM⟩:=bd hM;refine wl rfl (cC hS nB rfl rfl 1 rfl (bE _ _ (hS.drop 1).dlt (aX.mk b3 b4) (min E 3) _ _ (hS.boxRow 1 rfl) (hS.notin 1 rfl) (aE.lent (i:=1) rfl (hS.get 1 rfl)) _ h4) fun _ w hR hk=>?_);obtain⟨kv,he,hrow,g7⟩:=hR;obtain rfl:=he.symm;refine⟨(bk i4.2 kv),hrow,fun a hS=>?_⟩;replace hS:=hS.fS (aE.back (i:=1) rfl g7);exact fz
        exact fz
       rintro a w ⟨b0,b2,D,eq,hS,hM⟩;unfold kU at hM;refine aK (J:=fun a w=>∃ (d0:LN) (d1:Int) (K:Bool) (M:Int) (et:Value),St W0 (fun k=>k=e) T 132 [(0,pt e 0),(3,d),(5,al b),(7,al n),(8,pt f 0),(9,al p),(10,pt C 0),(27,al (q.length:Int)),(28,al b)] [cm d g,.box e [et,al d1] 64,xd B A,.box f [.bool m,B,al u,al z] 89,.box C [.bool o,.bool K,al D,al M] 93] [an aC g h,aR (aY.int .i64) et d0,an ff A r] a w∧kT p r o D d0 d1 K M=some f2) ?_ ?_
       ·skip;refine aK (J:=fun a w=>∃ (d4:Bool) (ao:LN) (av:Int) (ex:Value),St W0 (fun k=>k=e) T 132 [(0,pt e 0),(3,d),(5,al b),(7,al n),(8,pt f 0),(9,al p),(10,pt C 0),(11,al E),(27,al (q.length:Int)),(28,al b),(114,.bool d4)] [cm d g,.box e [ex,al av] 64,xd B A,.box f [.bool m,B,al u,al z] 89,.box C [.bool o,.bool false,al D,al 0] 93] [an aC g h,aR (aY.int .i64) ex ao,an ff A r] a w∧je p r o E D d4 ao av=some f2) ?_ ?_
        ·skip;refine ai hS fun a hS=>?_;rcases cd hM with⟨hN,hM⟩|⟨hN,hM⟩
         ·refine ai hS fun a hS=>?_;rcases cd hM with⟨fl,hM⟩|⟨fl,hM⟩
          ·refine ai hS fun a hS=>?_;obtain⟨i3,h2,hM⟩:=bd hM;refine wg hS rfl rfl rfl fl (cC hS nB rfl rfl 1 rfl (bE _ _ (hS.drop 1).dlt (aX.mk b0 b2) 3 _ _ (hS.boxRow 1 rfl) (hS.notin 1 rfl) (aE.lent (i:=1) rfl (hS.get 1 rfl)) _ h2) fun _ w hR hk=>?_);obtain⟨kx,he,hrow,g8⟩:=hR;obtain rfl:=he.symm;refine⟨(bk i3.2 kx),hrow,fun a hS=>?_⟩;replace hS:=hS.fS (aE.back (i:=1) rfl g8);exact fz
          exact fz
         exact fz
        rintro a w ⟨d4,ao,av,ex,hS,hM⟩;unfold je at hM;rcases cd hM with⟨hP,hM⟩|⟨hP,hM⟩
        ·refine ai hS fun a hS=>?_;obtain⟨i2,h1,hM⟩:=bd hM;refine wl rfl (cC hS nB rfl rfl 1 rfl (bE _ _ (hS.drop 1).dlt (aX.mk ao av) E _ _ (hS.boxRow 1 rfl) (hS.notin 1 rfl) (aE.lent (i:=1) rfl (hS.get 1 rfl)) _ h1) fun _ w hR hk=>?_);obtain⟨l0,he,hrow,gb⟩:=hR;obtain rfl:=he.symm;refine⟨(bk i2.2 l0),hrow,fun a hS=>?_⟩;replace hS:=hS.fS (aE.back (i:=1) rfl gb);exact fz
        exact fz
       rintro a w ⟨d0,d1,K,M,et,hS,hM⟩;unfold kT at hM;refine ai hS fun a hS=>?_;refine wl rfl (a8 (ps:=[(0,.tmp 122)]) hS L7 Ff (zl:=[.bool false,.bool false,al 0,al 0]) (by kernel_rfl) rfl (us:=[[.bool o,.bool K,al D,al M]]) ⟨rfl,trivial⟩ (ws:=[.bool o,.bool K,al D,al M]) rfl rfl rfl rfl fun m0 a w hk hS=>?_);replace hS:=(hS.lit (R:=ff) (us:=[.bool o,.bool K,al D,al M]) (xs:=[(dA.mk o K D M)]) 0 rfl (by decide) (aA.one_ (R:=ff) (x:=(dA.mk o K D M)) rfl) rfl rfl).freeze (R:=ff) 0 rfl 0 rfl;obtain⟨hV,hM⟩:=be hM;refine wl rfl (bM (R:=ff) (xs:=r) (ys:=[(dA.mk o K D M)]) hS L7 (by decide) (by decide) rfl rfl 2 rfl 4 rfl 0 rfl hV rfl fun o1 md a w hk hS=>?_);exact fz
      rintro a w ⟨co,cv,dl,el,c5,em,hS,hM⟩;unfold pP at hM;exact fz
     refine ai hS fun a hS=>?_;cases hM
     have hr:=hf2 _ rfl;subst hr;have hM:mJ h b m u z U V r=some f1:=hMo2;exact⟨_,_,_,_,_,_,hS.mt [0,1,2,3] [0,1,2],hM⟩
    rintro a w ⟨ck,cl,bb,bs,c4,eg,hS,hM⟩;unfold mJ at hM;refine ai hS fun a hS=>?_;obtain⟨ho,eT,hM⟩:=bd hM;refine wl rfl (dj (R:=aC) hS yk xA rfl rfl 0 rfl 0 rfl eT rfl fun m1 n6 nl ms hW hX hY a hS=>?_);obtain⟨l1,rfl,hf⟩:=hW;replace hS:=(hS.fS hf).freeze (R:=ff) 2 rfl 3 rfl;refine wl rfl (qe (R:=aC) (k:=0) (cs:=(vN ho l1)) (us:=[.bool m,bs,al u,al z]) (x':=(aW.mk m bb u z)) hS rfl rfl rfl xA 0 rfl 2 rfl hX hY eT (⟨_,rfl,(hS.get 1 rfl)⟩) rfl rfl (⟨_,rfl,(hS.get 0 rfl)⟩) fun n0 w hk hS=>?_);exact fz
   rintro a w ⟨dk,cb,ch,c3,e5,hS,hM⟩;unfold pO at hM;exact fz
  refine ai hS fun a hS=>?_;cases hM
  have hr:=hf1 _ rfl;subst hr;have hM:mI h G H=some y:=hMo1;exact⟨_,_,_,_,_,hS.mt [0,1] [0,1],hM⟩
 rintro a w ⟨dc,c9,ca,ak,bl,hS,hM⟩;unfold mI at hM;refine ai hS fun a hS=>?_;cases hM
 refine aI hS rfl (aq hS rfl aH) ?_;exact⟨d,ak,bl,rfl,hS.retOwnm ⟨.inr (a6 (i:=0) rfl),⟨.inr (a6 (i:=1) rfl),trivial⟩⟩ 0 rfl 0 rfl 1 rfl (by decide),hS.boxRow 1 rfl,(aE.up ⟨.inr (a6 (i:=0) rfl),⟨.inr (a6 (i:=1) rfl),trivial⟩⟩ (hS.get 1 rfl))⟩
end
end
end Go.Proofs.YtmfcloapbgfhaaaGreatDoor
