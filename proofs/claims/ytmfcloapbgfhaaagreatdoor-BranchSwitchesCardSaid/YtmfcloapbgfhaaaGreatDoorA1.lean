/- Texts of the proof, joined (1). -/
import Derived.Test.YtmfcloapbgfhaaaGreatDoorA0
import Derived.IntWalk
import Derived.Maps.RangeRun
import Derived.Test.YtmfcloapbgfhaaaGreatDoorProg
set_option linter.unusedVariables false
set_option linter.unusedSimpArgs false
set_option linter.unusedSectionVars false
namespace Go.Proofs.YtmfcloapbgfhaaaGreatDoor
section
open Go.RowKit
theorem oC {σ ρ:Type} {B:σ→Option (Fl σ ρ)} (I:Nat→σ→Prop) (post:ρ→Prop) (N:Nat)
    (hs:∀ k s,k < N→I k s→(∃ s',B s=some (.go s')∧I (k + 1) s')∨∃ r,B s=some (.out r)∧post r) (he:∀ s,I N s→∃ r,B s=some (.out r)∧post r) {s:σ} (h0:I 0 s):∃ r,loop B s=some r∧post r:=by
  have key:∀ (m k:Nat) (s:σ),k + m=N→I k s→∃ r,loop B s=some r∧post r:=by
    intro m
    induction m with
    | zero =>
      intro k s hk hI
      obtain rfl:k=N:=by omega
      obtain⟨r,h1,h2⟩:=he s hI
      exact⟨r,nJ h1,h2⟩
    | succ m ih =>
      intro k s hk hI
      rcases hs k s (by omega) hI with⟨s',h1,h2⟩|⟨r,h1,h2⟩
      · obtain⟨r,h3,h4⟩:=ih (k + 1) s' (by omega) h2
        exact⟨r,(yb h1).trans h3,h4⟩
      · exact⟨r,nJ h1,h2⟩
  exact key N 0 s (by omega) h0
theorem u7 {σ ρ:Type} {B:σ→Option (Fl σ ρ)} (I:Nat→σ→Prop) (y:ρ) (N:Nat)
    (hs:∀ k s,k < N→I k s→(∃ s',B s=some (.go s')∧I (k + 1) s')∨B s=some (.out y)) (he:∀ s,I N s→B s=some (.out y)) {s:σ} (h0:I 0 s):loop B s=some y:=by
  obtain⟨r,h1,rfl⟩:=oC I (fun r=>r=y) N (fun k s hk hI=>(hs k s hk hI).imp id fun h=>⟨y,h,rfl⟩) (fun s hI=>⟨y,he s hI,rfl⟩) h0
  exact h1
theorem pm {z:Int} (h1 : -9223372036854775808≤z) (h2:z≤9223372036854775807):IntKind.i64.wrap z=z:=by rw [IntKind.wrap_i64]; omega
theorem bB {α:Type} {xs:List α} {k:Nat} (h:k < xs.length):be xs (k:Int)=some xs[k]:=by
  unfold be
  simp [h]
theorem Bn {α:Type} {xs:List α} {l h:Nat} (h1:l≤h) (h2:h≤xs.length):oz xs (l:Int) (h:Int)=some ((xs.take h).drop l):=by
  unfold oz
  rw [if_pos ⟨by omega,by omega,by omega⟩]
  simp
theorem dv {n:Nat} (h:n≤4294967296):br n=true:=Nat.ble_eq_true_of_le h
def Ok {α:Type} (m:Option α) (P:α→Prop):Prop:=∃ y,m=some y∧P y
section
variable {α β:Type} {m:Option α} {P Q:α→Prop} {R:β→Prop} {f:α→Option β} {b:Bool} {x y:Option α}
theorem Ok.ret {v:α} (h:P v):Ok (some v) P:=⟨v,rfl,h⟩
theorem Ok.bind (h:Ok m Q) (k:∀ v,Q v→Ok (f v) R):Ok (m.bind f) R:=by
  obtain⟨v,rfl,hv⟩:=h
  exact k v hv
theorem Ok.eq {v:α} (h:m=some v) (k:Ok (f v) R):Ok (m.bind f) R:=by rw [h]; exact k
theorem Ok.cond (ht:b=true→Ok x P) (hf:b=false→Ok y P):Ok (cond b x y) P:=by
  cases b
  · exact hf rfl
  · exact ht rfl
theorem Ok.gd (hb:b=true) (h:Ok x P):Ok (gd b x) P:=by subst hb; exact h
theorem Ok.mono (h:Ok m Q) (k:∀ v,Q v→P v):Ok m P:=by obtain⟨v,e,hv⟩:=h; exact⟨v,e,k v hv⟩
theorem Ok.get {xs:List α} {i:Int} (h0:0≤i) (h1:i < xs.length) (k:∀ v,xs[i.toNat]? = some v→v ∈ xs→Ok (f v) R):Ok ((be xs i).bind f) R:=by
  have hk:i.toNat < xs.length:=by omega
  have e:be xs i=some xs[i.toNat]:=by
    have:=bB hk
    rwa [Int.toNat_of_nonneg h0] at this
  rw [e]
  exact k _ (List.getElem?_eq_getElem hk) (List.getElem_mem hk)
theorem Ok.loop {σ ρ:Type} {B:σ→Option (Fl σ ρ)} {s:σ} {g:ρ→Option β} (I:Nat→σ→Prop) (post:ρ→Prop) (N:Nat) (h0:I 0 s)
    (hs:∀ k s,k≤N→I k s→Ok (B s) fun r=>match r with
      | .go s'=>k < N∧I (k + 1) s'
      | .out r=>post r)
    (k:∀ r,post r→Ok (g r) R):Ok ((Go.Proofs.YtmfcloapbgfhaaaGreatDoor.loop B s).bind g) R:=by
  obtain⟨r,h1,h2⟩:=oC (B:=B) I post N (fun k s hk hI=>by
      obtain⟨y,e,hy⟩:=hs k s (by omega) hI
      cases y with
      | go s'=>exact .inl ⟨s',e,hy.2⟩
      | out r=>exact .inr ⟨r,e,hy⟩) (fun s hI=>by
      obtain⟨y,e,hy⟩:=hs N s (Nat.le_refl _) hI
      cases y with
      | go s'=>exact absurd hy.1 (by omega)
      | out r=>exact⟨r,e,hy⟩) h0
  rw [h1]
  exact k r h2
end
end
section
open Go.RowKit
open Go.Lib hiding intOf
theorem pr (s:ByteArray):s.data.toList=s.toList:=(ByteArray.toList_eq s).symm
def pW (a b:ByteArray):Option Int:=some (Lib.compareBytes a.toList b.toList)
theorem uE (T:Nat→Prop) (W0:World) (hT:∀ k,T k→k < W0.heap.size) (hLv:cU T W0) (a b:ByteArray) (y:Int) (hM:pW a b=some y):aW Tryz.prog No 80 [.string a,.string b] W0 fun v w'=>v = .int .i64 y:=by
  refine Calls.mono (Tryz.strings_Compare a b W0) ?_
  rintro e w' ⟨rfl,rfl⟩
  refine⟨_,rfl,Kt.refl _ _,?_⟩
  rw [pr,pr,← Option.some.inj hM]
end
section
open Go.RowKit
def Ec (f g:bU):bU:=⟨fun T w=>f.p T w∧g.p T w,fun h k n=>⟨f.keep h.1 k n,g.keep h.2 k n⟩⟩
def w8:bU:=⟨fun _ _=>True,fun _ _ _=>trivial⟩
def H8 (sz:Nat) (v v':Value) (lo hi n:Nat):Prop:=∃ A c,v = .slice A n c∧n≤c∧lo≤hi∧hi≤n∧v' = .slice (if c=lo then A else A.map (·.add (lo * sz))) (hi - lo) (c - lo)
def Ee (sz:Nat) (v v':Value) (lo hi n:Nat):bU:=⟨fun _ _=>H8 sz v v' lo hi n,fun h _ _=>h⟩
section
variable {P:Program} {W:World} {M T E:Nat→Prop} {n:Nat} {G G':List (Nat×Value)} {D D' D0 Dr rs:List cx} {F F':List bU} {a:Act} {w w':World} {K:Act→World→Prop}
theorem zQ {d:Option Nat} {f:Nat} {caps:Array Operand} {ty:TypeId} {pos:String} {af:Array Edge} {g:Option (Nat×Bool)} {vs:List Value} (hS:St W M T n G D F a w) (hv:evs G caps.toList=some vs) :
    Ye P ⟨d,.makeFunc (.func f) #[] caps,ty,pos,af,g⟩ a E w (.func (.func f) #[] vs.toArray) :=
  Ye.of fun w=>by
    have h1:(caps.map a.eval)=vs.toArray:=by
      apply Array.toList_inj.1
      rw [Array.toList_map,hS.evs hv]
    simp [execOp,Instr.makeFunc,h1]
theorem St.freezeBox {b:Nat} {cs:List Value} {t:TypeId} (h:St W M T n G D F a w) (i:Nat) (hi:D[i]? = some (.box b cs t)):St W M T n G (D.eraseIdx i) (l6 b 0 cs :: F) a w:=by
  have hlt:=(List.getElem?_eq_some_iff.1 hi).1
  have hD:=(List.getElem?_eq_some_iff.1 hi).2
  have ho:w.heap[b]? = some (.cells cs.toArray t (0,0)):=h.own _ (List.mem_of_getElem? hi)
  refine (h.drop i).fact _ ⟨fun hT=>?_,(Array.getElem?_eq_some_iff.1 ho).1,fun j u hu=>?_⟩
  · rcases hT with hT | ⟨s,hs,hT⟩
    · exact (h.free _ (List.mem_of_getElem? hi) b rfl).1 hT
    · obtain⟨z,hz⟩:=List.mem_iff_getElem?.1 hs
      rw [List.getElem?_eraseIdx] at hz
      split at hz
      · rename_i hzi
        have hzl:=(List.getElem?_eq_some_iff.1 hz).1
        have:=List.pairwise_iff_getElem.1 h.apart z i hzl hlt hzi b (by rw [(List.getElem?_eq_some_iff.1 hz).2]; exact hT)
        rw [hD] at this; exact this rfl
      · rename_i hzi
        have hzl:=(List.getElem?_eq_some_iff.1 hz).1
        have:=List.pairwise_iff_getElem.1 h.apart i (z + 1) hlt hzl (by omega) b (by rw [hD]; rfl)
        rw [(List.getElem?_eq_some_iff.1 hz).2] at this; exact this hT
  · rw [Nat.zero_add,(uN.of ho).cell]
    simpa using hu
theorem F2 {α:Type} {R:aN α} {xs ys:List α} {e e' t:TypeId} {v:Value} {cl:List Value} {lo hi:Int} {ag:Bool} (hS:St W M T n G D F a w) (ht:jj P t=some e) (he:l3 P e=some (ag,R.size)) (q:Nat) (hq:D[q]? = some (.own v e' R.size cl)) (j:Nat) (hj:F[j]? = some (am R cl xs)) (hg:oz xs lo hi=some ys) :
    ∃ v',(∀ (T:Nat→Prop) (w:World),aA R T w v xs→aA R T w v' ys)∧H8 R.size v v' lo.toNat hi.toNat xs.length∧(∀ {E:Nat→Prop} {d:Option Nat} {ty:TypeId} {X:Operand} {olo ohi:Option Operand} {pos:String} {af:Array Edge} {g:Option (Nat×Bool)} {k1 k2:IntKind},ev G X=some v→((∃ x,olo=some x∧ev G x=some (.int k1 lo))∨(olo=none∧lo=0))→((∃ x,ohi=some x∧ev G x=some (.int k2 hi))∨(ohi=none∧hi=xs.length))→Ye P ⟨d,.slice t X olo ohi none,ty,pos,af,g⟩ a E w v'):=by
  obtain⟨q1,q2,q3,rfl⟩:=oG hg
  obtain⟨A,c,hv,h1,h2,hS'⟩:=Fm (lo:=lo.toNat) (hi:=hi.toNat) hS q hq j hj (by omega) (by omega)
  refine⟨_,fun T w h=>?_,⟨A,c,hv,h1,by omega,by omega,rfl⟩,fun hX hlo hhi=>Fx hS ht he q1 q2 q3 h1 hv hX hlo hhi⟩
  subst hv
  refine h.cut (by omega) (by omega) _ (fun hlt b o hA=>?_)
  rw [if_neg (by omega),hA]
  simp [jl]
theorem jk.mid {e:TypeId} {sz:Nat} {v:Value} {cl us:List Value} {B:Nat} (h:jk w B e sz v cl) (o:Nat) (hl:o + us.length≤cl.length) (hpos:0 < us.length) :
    ∃ g off m c cs,v = .slice (some ⟨g,off,none⟩) m c∧cl.length=m * sz∧m≤c∧uN w g cs e∧off + c * sz≤cs.size∧jk (w.setCells g (off + o) us) B e sz v (k7 cl o us)∧(∀ j,j < us.length→(w.cell? ⟨g,off + o + j,none⟩).isSome=true)∧(∀ j,j < us.length→w.frozen? ⟨g,off + o + j,none⟩=false):=by
  rcases h with⟨_,rfl⟩|⟨g,off,m,c,cs,rfl,h1,hb,hg,hmc,hc,hsz,hcs⟩
  · simp only [List.length_nil] at hl; omega
  have hmz:m * sz≤c * sz:=Nat.mul_le_mul_right _ hmc
  refine⟨g,off,m,c,cs,rfl,h1,hmc,hg,hsz,?_,fun j hj=>?_,fun j hj=>hg.free (by omega)⟩
  · obtain⟨fz,hg1,hfz⟩:=hg
    obtain⟨cs',a1,a2,a3,a4⟩:=dG g e fz us (off + o) w cs hg1
    refine .inr ⟨g,off,m,c,cs',rfl,?_,hb,⟨fz,a1,by rw [a2]; exact hfz⟩,hmc,hc,by rw [a2]; exact hsz,fun j u hu=>?_⟩
    · unfold k7; simp only [List.length_append,List.length_take,List.length_drop]; omega
    · rw [tN _ _ _ _ hl] at hu
      split at hu
      · rename_i hj
        have:=a4 (by omega) _ u hu
        rwa [show off + o + (j - o)=off + j by omega] at this
      · rename_i hj
        rw [a3 _ (by omega)]; exact hcs j u hu
  · rw [hg.cell,Array.getElem?_eq_getElem (by omega)]; rfl
theorem Ar {α:Type} {R:aN α} {T:Nat→Prop} {w:World} {B:Nat} {e:TypeId} {v:Value} {cl:List Value} {xs:List α} {A:Option Addr} {m c:Nat} (h:jk w B e R.size v cl) (hs:0 < R.size) (hr:aB R T w cl xs) (hv:v = .slice A m c):m=xs.length:=by
  rcases h with⟨rfl,rfl⟩|⟨g,off,m',c',cs,rfl,h1,_⟩
  · injection hv with _ e2 _
    have:=hr.1
    rw [← e2]
    cases xs with
    | nil=>rfl
    | cons x r=>simp [Nat.add_mul] at this; omega
  · injection hv with _ e2 _
    subst e2
    exact Nat.mul_right_cancel hs (h1.symm.trans hr.1)
theorem aB.mid {α:Type} {R:aN α} {T:Nat→Prop} {w:World} {cl us:List Value} {xs ys:List α} (h:aB R T w cl xs) (k:aB R T w us ys) {lo:Nat} (hl:lo + ys.length≤xs.length):aB R T w (k7 cl (lo * R.size) us) (xs.take lo ++ ys ++ xs.drop (lo + ys.length)):=by
  have h1:=h.cut (Nat.zero_le lo) (by omega)
  have h2:=h.cut hl (Nat.le_refl _)
  rw [Nat.zero_mul,List.drop_zero,List.drop_zero] at h1
  rw [List.take_length,List.take_of_length_le (by rw [h.1]; exact Nat.le_refl _)] at h2
  have h3:=(h1.append k).append h2
  unfold k7
  rw [k.1,← Nat.add_mul]
  exact h3
theorem wI (z:Value):∀ m:Nat,(Builtin.zeroCells z.cells m).toList=(List.replicate m z.cells.toList).flatten:=by
  intro m
  rw [← xo]
  simp [Builtin.zeroCells,madeCells]
theorem E2 {α:Type} {R:aN α} {z0:α} {xs:List α} {ty t e:TypeId} {x:Operand} {pos:String} {af:Array Edge} {g:Option (Nat×Bool)} {bt lo hi:Nat} {v v':Value} {cl zs:List Value} (hS:St W M T n G D F a w) (he:xR P t=some (e,R.size,bt)) (hz:iO P e=some zs) (hx:ev G x=some v') (i:Nat) (hi_:D[i]? = some (.own v e R.size cl)) (p:Nat) (hp:F[p]? = some (am R cl xs)) {m0:Nat} (hw:H8 R.size v v' lo hi m0) (hr:R.rel (dT T D) w zs z0)
    (k:∀ cl' w',Kt (fun j=>v.ownBlock=some j) w w'→St W M T n G (D.set i (.own v e R.size cl')) (am R cl' (xs.take lo ++ List.replicate (hi - lo) z0 ++ xs.drop hi) :: F) a w'→K a w'):oA P ⟨none,.call { callee:=.builtin .clear,args:=#[x],argTypes:=#[t] },ty,pos,af,g⟩ a w K:=by
  obtain⟨hown,hsz⟩:=hS.own _ (List.mem_of_getElem? hi_)
  have hrow:aB R (dT T D) w cl xs:=hS.get p hp
  obtain⟨A,c,hv,hnc,hlh,hhn,hv'⟩:=hw
  obtain rfl:m0=xs.length:=Ar hown hsz hrow hv
  obtain⟨ht,_⟩:=vH he
  obtain⟨z,hzl,hzr⟩:=uy hz w
  have hx':=hS.ev hx
  by_cases h0:hi - lo=0
  · have h1:(execOp a.eval ⟨none,.call { callee:=.builtin .clear,args:=#[x],argTypes:=#[t] },ty,pos,af,g⟩).run P w = .ok (.value (.tuple #[])) w:=by
      rw [h0] at hv'
      subst hv'
      simp only [execOp,resolve,invoke,builtin]
      generalize (if c=lo then A else A.map (·.add (lo * R.size)))=A' at hx'
      cases A' <;> simp [Builtin.clear_,hx',run_underlying ht]
    refine sf h1 (k cl w (Kt.refl _ _) ?_)
    rw [h0]
    have e1:xs.take lo ++ List.replicate 0 z0 ++ xs.drop hi=xs:=by
      rw [List.replicate_zero,List.append_nil,show hi=lo by omega,List.take_append_drop]
    rw [e1]
    have h2:=(hS.fact (am R cl xs) hrow).turn hi_ (w':=w) (Kt.refl _ _) (r':=.own v e R.size cl) ⟨hown,hsz⟩ (fun j hj=>.inl hj)
    exact h2
  · have hrows:=aB.rep hr (hi - lo)
    have hlen:=hrows.1
    rw [List.length_replicate] at hlen
    have hclen:=hrow.1
    have q1:lo * R.size + (hi - lo) * R.size≤cl.length:=by
      rw [hclen,← Nat.add_mul]; exact Nat.mul_le_mul_right _ (by omega)
    have q2:0 < (hi - lo) * R.size:=Nat.mul_pos (by omega) hsz
    obtain⟨gb,off,m,c',cs,hv2,h1,hmc,hg,hcs,hown',hcell,hfree⟩:=hown.mid (us:=(List.replicate (hi - lo) zs).flatten) (lo * R.size) (by rw [hlen]; exact q1) (by rw [hlen]; exact q2)
    have hrow':=hrow.mid hrows (lo:=lo) (by rw [List.length_replicate]; omega)
    rw [List.length_replicate,show lo + (hi - lo)=hi by omega] at hrow'
    rw [hv] at hv2
    injection hv2 with e1 e2 e3
    subst e1 e2 e3
    have hA:(if c=lo then (some ⟨gb,off,none⟩:Option Addr) else (some (⟨gb,off,none⟩:Addr)).map (·.add (lo * R.size)))=some ⟨gb,off + lo * R.size,none⟩:=by
      rw [if_neg (by omega)]; simp [jl]
    rw [hA] at hv'
    subst hv'
    have hst:=run_storeCells_cells (P:=P) gb (off + lo * R.size) (List.replicate (hi - lo) zs).flatten 0 w (by simpa using hcell) (by simpa using hfree) (hrows.cell hsz)
    simp only [Nat.add_zero] at hst
    have hzc:(Builtin.zeroCells z.cells (hi - lo)).toList=(List.replicate (hi - lo) zs).flatten:=by rw [wI,hzl]
    have h1:(execOp a.eval ⟨none,.call { callee:=.builtin .clear,args:=#[x],argTypes:=#[t] },ty,pos,af,g⟩).run P w = .ok (.value (.tuple #[])) (w.setCells gb (off + lo * R.size) (List.replicate (hi - lo) zs).flatten):=by
      obtain⟨m',hm'⟩:∃ m',hi - lo=m' + 1:=⟨hi - lo - 1,by omega⟩
      rw [hm'] at hx' hzc hst ⊢
      simp [execOp,resolve,invoke,builtin,Builtin.clear_,hx',run_underlying ht,hzr,hzc,hst]
    subst hv
    have hkt:Kt (fun j=>(Value.slice (some ⟨gb,off,none⟩) xs.length c).ownBlock=some j) w (w.setCells gb (off + lo * R.size) (List.replicate (hi - lo) zs).flatten):=(Kt.setCells _ _ _ _).mono fun j h=>by rw [h]; rfl
    refine sf h1 (k (k7 cl (lo * R.size) (List.replicate (hi - lo) zs).flatten) _ hkt ?_)
    exact (hS.fact (am R _ _) hrow').turn hi_ hkt (r':=.own (.slice (some ⟨gb,off,none⟩) xs.length c) e R.size (k7 cl (lo * R.size) (List.replicate (hi - lo) zs).flatten)) ⟨hown',hsz⟩ (fun j hj=>.inl hj)
theorem vC {α:Type} {R:aN α} {xs:List α} {x:α} {t e e':TypeId} {v v':Value} {cl:List Value} {i:Int} {lo hi:Nat} {ag:Bool} (hS:St W M T n G D F a w) (ht:jj P t=some e) (he:l3 P e=some (ag,R.size)) (q:Nat) (hq:D[q]? = some (.own v e' R.size cl)) (j:Nat) (hj:F[j]? = some (am R cl xs)) {m0:Nat} (hw:H8 R.size v v' lo hi m0) (h0:decide (0≤i)=true) (h1:decide (i < ((hi - lo:Nat):Int))=true) (hg:be xs ((lo:Int) + i)=some x) :
    ∃ b o p cs,R.rel (dT T D) w cs x∧D9 v b o R.size ((lo:Int) + i) p∧(∀ k u,cs[k]? = some u→cl[p + k]? = some u)∧(∀ {E:Nat→Prop} {d:Option Nat} {ty:TypeId} {X Y:Operand} {pos:String} {af:Array Edge} {g:Option (Nat×Bool)} {k:IntKind},ev G X=some v'→ev G Y=some (.int k i)→Ye P ⟨d,.indexAddr t X Y,ty,pos,af,g⟩ a E w (.pointer (some ⟨b,o,none⟩))):=by
  obtain⟨b,off,c,rfl,cs,g1,g2⟩:=yg hS q hq j hj hg
  have h0:=of_decide_eq_true h0
  have h1:=of_decide_eq_true h1
  obtain⟨A,c2,hv,hnc,hlh,hhn,rfl⟩:=hw
  injection hv with e1 e2 e3
  subst e1 e2 e3
  have hA:(if c=lo then (some ⟨b,off,none⟩:Option Addr) else (some (⟨b,off,none⟩:Addr)).map (·.add (lo * R.size)))=some ⟨b,off + lo * R.size,none⟩:=by
    rw [if_neg (by omega)]; simp [jl]
  rw [hA]
  have he2:off + ((lo:Int) + i).toNat * R.size=off + lo * R.size + i.toNat * R.size:=by
    rw [show ((lo:Int) + i).toNat=lo + i.toNat by omega,Nat.add_mul]; omega
  refine⟨b,off + ((lo:Int) + i).toNat * R.size,_,cs,g1,⟨off,_,_,rfl,rfl,rfl⟩,g2,fun hX hY=>Ye.of fun w=>?_⟩
  rw [he2]
  simp [execOp,hS.ev hX,hS.ev hY,nY ht he h0 h1]
theorem HV {d:Option Nat} {x:Operand} {t e:TypeId} {ty:TypeId} {pos:String} {af:Array Edge} {g:Option (Nat×Bool)} {sz:Nat} {v v':Value} {lo hi m:Nat} (hS:St W M T n G D F a w) (ht:jj P t=some e) (hx:ev G x=some v') (hw:H8 sz v v' lo hi m) :
    Ye P ⟨d,.call { callee:=.builtin .len,args:=#[x],argTypes:=#[t] },ty,pos,af,g⟩ a E w (.int .i64 ((hi - lo:Nat):Int)):=by
  obtain⟨A,c2,hv,hnc,hlh,hhn,rfl⟩:=hw
  exact AN hS ht hx ⟨_,_,rfl⟩
theorem bU.dn (f:bU) {T:Nat→Prop} {w:World} (h:f.p T w):f.p (dT T []) w:=f.keep h (Kt.refl _ _) fun k hk=>by
  rcases hk with hk | ⟨r,hr,_⟩
  · exact .inl hk
  · cases hr
end
section
variable {κ ν:Type} {P:Program} {W:World} {M T E:Nat→Prop} {n:Nat} {G G':List (Nat×Value)} {D D':List cx} {F F':List bU} {a:Act} {w w':World} {K:Act→World→Prop}
variable {kt et:TypeId} {RK:aN κ} {ak:Bool} {RV:aN ν} {av:Bool} {q:κ→κ→Bool} {b clock:Nat} {es:Array MapEntry} {xs:List (κ×ν)}
theorem Hp {t t2 ty:TypeId} {X Y:Operand} {pos:String} {af:Array Edge} {g:Option (Nat×Bool)} (hS:St W M T n G D F a w) (ht:Bf P t=some (kt,et)) (hK:tU P kt RK ak q) (i:Nat) (hi:D[i]? = some (.obj b (.map es clock))) (j:Nat) (hj:F[j]? = some (mS RK ak RV av es xs))
    {c:List Value} {key:κ} (hc:RK.rel (dT T D) w c key) (hX:ev G X=some (.map (some b))) (hY:ev G Y=some (aX ak c))
    (k:∀ es' ck' w',Kt (fun j=>j=b) w w'→St W M T n G (D.set i (.obj b (.map es' ck'))) (mS RK ak RV av es' (pE q key xs) :: F) a w'→K a w'):oA P ⟨none,.call { callee:=.builtin .delete,args:=#[X,Y],argTypes:=#[t,t2] },ty,pos,af,g⟩ a w K:=by
  have hr:w.heap[b]? = some (.map es clock):=hS.own _ (List.mem_of_getElem? hi)
  have hm:=hS.mapOk j hj
  obtain⟨hl,hkeys⟩:=rZ hm
  have hf:=oP hK hc w hl hkeys
  have hch:=hK.check es.isEmpty _ _ w _ _ hc
  have fin:∀ es' ck',(Builtin.delete_ #[t,t2] ty #[.map (some b),aX ak c]).run P w = .ok (.tuple #[]) { w with heap:=w.heap.setIfInBounds b (.map es' ck') }→bx RK ak RV av (dT T D) w es' (pE q key xs)→oA P ⟨none,.call { callee:=.builtin .delete,args:=#[X,Y],argTypes:=#[t,t2] },ty,pos,af,g⟩ a w K:=fun es' ck' hrun hok=>by
    refine sf (w':={ w with heap:=w.heap.setIfInBounds b (.map es' ck') }) (v:=.tuple #[]) (by simp [execOp,resolve,invoke,builtin,hS.ev hX,hS.ev hY,hrun]) (k es' ck' _ ((ni hr).mono fun j hj=>(Option.some.inj hj).symm) ?_)
    exact (hS.fact (mS RK ak RV av es' _) hok).turn hi (ni hr) (r':=.obj b (.map es' ck')) (nI hr).1 fun j hj=>.inl hj
  cases hp:qA q key xs with
  | none =>
    obtain⟨_,_,g3⟩:=oD hp
    rw [hp] at hf
    refine fin es clock ?_ (by rw [g3]; exact hm)
    simp [Builtin.delete_,run_underlying (kd ht),se hr,hch,hf,uY,yr _ hr]
  | some p =>
    obtain⟨x0,hx0,hq0,_,_,g3⟩:=oE hp
    have hpi:p < es.size:=by rw [hm.1]; exact (List.getElem?_eq_some_iff.1 hx0).1
    have he0:es[p]? = some es[p]:=Array.getElem?_eq_getElem hpi
    rw [hp] at hf
    have hat:uY es.toList 0 (some p)=some (p,es[p].val):=by simp [uY,he0]
    rw [hat] at hf
    refine fin (es.eraseIdxIfInBounds p) clock ?_ ⟨?_,fun z e x he hx=>?_⟩
    · simp [Builtin.delete_,run_underlying (kd ht),se hr,hch,hf,yr _ hr]
    · rw [g3]
      have h1:(es.eraseIdxIfInBounds p).size=es.size - 1:=by simp [Array.eraseIdxIfInBounds,hpi]
      rw [h1,List.length_eraseIdx,if_pos (by rw [← hm.1]; exact hpi),hm.1]
    · rw [g3,List.getElem?_eraseIdx] at hx
      have he2:(es.eraseIdxIfInBounds p)[z]? = if z < p then es[z]? else es[z + 1]?:=by
        simp only [Array.eraseIdxIfInBounds,hpi,dif_pos]
        rw [Array.getElem?_eraseIdx]
      rw [he2] at he
      split at hx
      · rename_i hz
        rw [if_pos hz] at he
        exact hm.2 z e x he hx
      · rename_i hz
        rw [if_neg hz] at he
        exact hm.2 (z + 1) e x he hx
end
end
section
open Go.RowKit
section
variable {P:Program} {W:World} {M T E:Nat→Prop} {n:Nat} {G G':List (Nat×Value)} {D D' D0 Dr rs:List cx} {F F':List bU} {a:Act} {w w':World} {K:Act→World→Prop}
end
end
section
open Go.RowKit
structure KX (α ν β:Type) where
  R:aN α
  RN:aN ν
  RI:aN β
  et:TypeId
  get:α→List β
  put:List β→α→α
  nf:Value→α→ν
  size:RN.size=R.size
  pos:0 < RI.size
  close:∀ {T:Nat→Prop} {w:World} {cs:List Value} {v:Value} {x:α},RN.rel T w cs (nf v x)→aA RI T w v (get x)→R.rel T w cs x
  gp:∀ l x,get (put l x)=l
  np:∀ v l x,nf v (put l x)=nf v x
def I5 (e:TypeId) (sz:Nat):qS:=⟨.slice none 0 0,e,sz,[]⟩
section
variable {α ν β:Type} (N:KX α ν β)
def KX.no:qS:=I5 N.et N.RI.size
variable {N}
variable {P:Program} {W:World} {M T E:Nat→Prop} {n:Nat} {G G':List (Nat×Value)} {D D' D0 Dr rs:List cx} {F F':List bU} {a:Act} {w w':World} {K:Act→World→Prop}
end
end
section
open Go.RowKit
section
variable {P:Program} {W:World} {M T E:Nat→Prop} {n:Nat} {G G':List (Nat×Value)} {D D' D0 Dr rs:List cx} {F F':List bU} {a:Act} {w w':World} {K:Act→World→Prop}
end
end
section
open Go.RowKit
def Gk {κ ν:Type} (RK:aN κ) (ak:Bool) (RV:aN ν) (av:Bool) (T:Nat→Prop) (W w:World) (rs:List cx) (b:Nat) (es:Array MapEntry) (ck:Nat) (xs:List (κ×ν)):Prop :=
  w.heap[b]? = some (.map es ck)∧W.heap.size≤b∧bx RK ak RV av (dT T rs) w es xs
theorem qB {W:World} {b:Nat} {o:Obj} (h:W.heap.size≤b):∀ k,cx.dom (.obj b o) k→W.heap.size≤k:=fun k hk=>by
  simp only [cx.dom,Option.some.injEq] at hk; omega
section
variable {κ ν:Type} {P:Program} {W:World} {M T E:Nat→Prop} {n:Nat} {G:List (Nat×Value)} {D rs:List cx} {F:List bU} {a:Act} {w:World}
theorem St.retMap {RK:aN κ} {ak:Bool} {RV:aN ν} {av:Bool} {b ck:Nat} {es:Array MapEntry} {xs:List (κ×ν)} (h:St W No T n G D F a w) (hi:Fz D rs) (i:Nat) (hd:D[i]? = some (.obj b (.map es ck))) (j:Nat) (hj:F[j]? = some (mS RK ak RV av es xs)):Gk RK ak RV av T W w rs b es ck xs:=by
  have hm:=List.mem_of_getElem? hd
  exact⟨h.own _ hm,(h.free _ hm b rfl).2.resolve_left fun h=>h,(h.get j hj:bx RK ak RV av (dT T D) w es xs).keep (Kt.refl _ _) fun k hk=>.inl (hi.sub k hk)⟩
end
end
section
open Go.RowKit
def HR {α:Type} (R:aN α):aN (List Value ⊕ α) where
  size:=R.size
  rel:=fun T w cs y=>match y with
    | .inl c=>cs=c∧c.length=R.size∧∀ u ∈ c,u.oneCell'=true
    | .inr x=>R.rel T w cs x
  len:=fun {T w cs y} h=>by
    cases y with
    | inl c=>obtain⟨rfl,h,_⟩:=h; exact h
    | inr x=>exact R.len h
  one:=fun {T w cs y} h=>by
    cases y with
    | inl c=>obtain⟨rfl,_,h⟩:=h; exact h
    | inr x=>exact R.one h
  keep:=fun {T T' w w' cs y} h k n=>by
    cases y with
    | inl c=>exact h
    | inr x=>exact R.keep h k n
def eb {α:Type} (xs:List α) (i:Int) (cs:List Value):List (List Value ⊕ α):=(xs.map Sum.inr).set i.toNat (Sum.inl cs)
theorem tn {α:Type} {xs:List α} {i:Int} {cs:List Value}:(eb xs i cs).length=xs.length:=by unfold eb; simp
section
variable {α:Type} {R:aN α} {P:Program} {W:World} {M T E:Nat→Prop} {n:Nat} {G:List (Nat×Value)} {D rs:List cx} {F:List bU} {a:Act} {w:World} {K:Act→World→Prop} {xs:List α} {i:Int} {x:α} {cs cl:List Value}
theorem rR (h:be xs i=some x) (cs:List Value):be (eb xs i cs) i=some (Sum.inl cs):=by
  obtain⟨q1,q2,q3⟩:=fg h
  unfold be eb
  have:=(List.getElem?_eq_some_iff.1 q3).1
  rw [if_pos q1,List.getElem?_set,if_pos rfl,if_pos (by simpa using this)]
theorem C0 (cs cs':List Value):(eb xs i cs).set i.toNat (Sum.inl cs')=eb xs i cs':=by
  unfold eb; rw [List.set_set]
theorem DG {T:Nat→Prop} (h:aB R T w cl xs):aB (HR R) T w cl (xs.map Sum.inr):=by
  refine⟨by rw [List.length_map]; exact h.1,fun k y hy=>?_⟩
  rw [List.getElem?_map] at hy
  cases hx:xs[k]? with
  | none=>rw [hx] at hy; cases hy
  | some x =>
    rw [hx] at hy
    obtain rfl:=Option.some.inj hy
    exact h.2 k x hx
theorem St.openH (hS:St W M T n G D F a w) (j:Nat) (hj:F[j]? = some (am R cl xs)):St W M T n G D (am (HR R) cl (xs.map Sum.inr) :: F) a w:=hS.fact _ (DG (hS.get j hj))
theorem df {v:Value} {b o p:Nat} (hS:St W M T n G D F a w) (j:Nat) (hj:F[j]? = some (am (HR R) cl (eb xs i cs))) (ho:D9 v b o R.size i p) (hg:be xs i=some x):∀ k u,cs[k]? = some u→cl[p + k]? = some u:=by
  obtain⟨off,m,c,rfl,rfl,rfl⟩:=ho
  obtain⟨q1,q2,q3⟩:=fg (rR hg cs)
  obtain⟨c2,⟨rfl,_,_⟩,h2⟩:=(hS.get j hj:aB (HR R) (dT T D) w cl (eb xs i cs)).2 _ _ q3
  exact h2
theorem y6 {T:Nat→Prop} (hS:aB (HR R) T w cl (eb xs i cs)) (hg:be xs i=some x):(HR R).rel T w cs (Sum.inl cs):=by
  obtain⟨q1,q2,q3⟩:=fg (rR hg cs)
  obtain⟨c2,⟨rfl,h1,h2⟩,_⟩:=hS.2 _ _ q3
  exact⟨rfl,h1,h2⟩
theorem St.closeH {x':α} (hS:St W M T n G D F a w) (j:Nat) (hj:F[j]? = some (am (HR R) cl (eb xs i cs))) (hr:R.rel (dT T D) w cs x'):St W M T n G D (am R cl (xs.set i.toNat x') :: F) a w:=by
  have h:aB (HR R) (dT T D) w cl (eb xs i cs):=hS.get j hj
  refine hS.fact _ ⟨by rw [List.length_set,← tn (xs:=xs) (i:=i) (cs:=cs)]; exact h.1,fun k y hy=>?_⟩
  rw [List.getElem?_set] at hy
  by_cases hk:i.toNat=k
  · subst hk
    rw [if_pos rfl] at hy
    split at hy
    · rename_i hl
      obtain rfl:=Option.some.inj hy
      obtain⟨c2,⟨rfl,_,_⟩,h2⟩:=h.2 i.toNat (Sum.inl cs) (by unfold eb; rw [List.getElem?_set,if_pos rfl,if_pos (by simpa using hl)])
      exact⟨_,hr,h2⟩
    · cases hy
  · rw [if_neg hk] at hy
    exact h.2 k (Sum.inr y) (by unfold eb; rw [List.getElem?_set,if_neg hk,List.getElem?_map,hy]; rfl)
theorem C4 {t ty e:TypeId} {X Y:Operand} {pos:String} {af:Array Edge} {g:Option (Nat×Bool)} {ag:Bool} {z b o k p:Nat} {v u:Value} {us:List Value} (hS:St W M T n G D F a w) (hX:ev G X=some (.pointer (some ⟨b,o + k,none⟩))) (hY:ev G Y=some u) (hu:u.cells.toList=us) (ht:l3 P t=some (ag,z)) (q:Nat) (hq:D[q]? = some (.own v e R.size cl)) (j:Nat) (hj:F[j]? = some (am (HR R) cl (eb xs i cs))) (ho:D9 v b o R.size i p) (hg:be xs i=some x)
    (hz:us.length=z) (hl:Nat.ble (k + z) cs.length=true) (hone:∀ y ∈ k7 cs k us,y.oneCell'=true)
    (K':∀ cl' w',Kt (fun j=>v.ownBlock=some j) w w'→St W M T n G (D.set q (.own v e R.size cl')) (am (HR R) cl' (eb xs i (k7 cs k us)) :: F) a w'→K a w'):oA P ⟨none,.store t X Y,ty,pos,af,g⟩ a w K:=by
  have hr:(HR R).rel (dT T D) w cs (Sum.inl cs):=y6 (hS.get j hj) hg
  have hlen:(k7 cs k us).length=R.size:=by
    have h1:=hr.2.1
    have:=Nat.le_of_ble_eq_true hl
    unfold k7
    simp only [List.length_append,List.length_take,List.length_drop]
    omega
  exact oU (R:=HR R) (xs:=eb xs i cs) (x:=Sum.inl cs) (x':=Sum.inl (k7 cs k us)) (k:=k) (cs:=cs) (us:=us) hS hX hY hu ht q hq j hj ho (df hS j hj ho hg) (rR hg cs) hr hz hl ⟨rfl,hlen,hone⟩ fun cl' w' hk hS'=>K' cl' w' hk (by rw [C0] at hS'; exact hS')
end
end
section
open Go.RowKit
structure Li {κ β:Type} (RK:aN κ) (ak:Bool) (RI:aN β) (e:TypeId) (T:Nat→Prop) (w:World) (es:Array MapEntry) (ck:Nat) (inn:List qS) (xs:List (κ×List β)):Prop where
  n1:es.size=xs.length
  n2:inn.length=xs.length
  ky:∀ (i:Nat) (m:MapEntry) (x:κ×List β),es[i]? = some m→xs[i]? = some x→∃ c,RK.rel T w c x.1∧m.key=aX ak c
  val:∀ (i:Nat) (m:MapEntry) (o:qS),es[i]? = some m→inn[i]? = some o→m.val=o.v
  row:∀ (i:Nat) (o:qS) (x:κ×List β),inn[i]? = some o→xs[i]? = some x→o.e=e∧o.sz=RI.size∧aB RI T w o.cl x.2
  lt:∀ (i:Nat) (m:MapEntry),es[i]? = some m→m.born < ck
  inj:∀ (i j:Nat) (m m':MapEntry),es[i]? = some m→es[j]? = some m'→m.born=m'.born→i=j
structure Lh {κ β:Type} (RK:aN κ) (ak:Bool) (RI:aN β) (e:TypeId) (q:κ→κ→Bool) (T:Nat→Prop) (w:World) (es:Array MapEntry) (ck:Nat) (inn:List qS) (xs0:List (κ×List β)) (key:κ) (s:Int) (p:Nat):Prop where
  n1:es.size=(cT q key [] xs0).length
  n2:inn.length=(cT q key [] xs0).length
  ky:∀ (i:Nat) (m:MapEntry) (x:κ×List β),es[i]? = some m→(cT q key [] xs0)[i]? = some x→∃ c,RK.rel T w c x.1∧m.key=aX ak c
  val:∀ (i:Nat) (m:MapEntry) (o:qS),i ≠ p→es[i]? = some m→inn[i]? = some o→m.val=o.v
  row:∀ (i:Nat) (o:qS) (x:κ×List β),inn[i]? = some o→(cT q key [] xs0)[i]? = some x→o.e=e∧o.sz=RI.size∧aB RI T w o.cl x.2
  lt:∀ (i:Nat) (m:MapEntry),es[i]? = some m→m.born < ck
  inj:∀ (i j:Nat) (m m':MapEntry),es[i]? = some m→es[j]? = some m'→m.born=m'.born→i=j
  at_:∃ m,es[p]? = some m∧s=(m.born:Int)
  no:inn[p]? = some (I5 e RI.size)
  it:(cT q key [] xs0)[p]? = some (key,[])
  set:∀ ys,(cT q key [] xs0).set p (key,ys)=cT q key ys xs0
section
variable {κ β:Type} {P:Program} {W:World} {M T E:Nat→Prop} {n:Nat} {G G':List (Nat×Value)} {D D':List cx} {F F':List bU} {a:Act} {w w':World} {K:Act→World→Prop}
variable {kt et:TypeId} {RK:aN κ} {ak:Bool} {RI:aN β} {e:TypeId} {q:κ→κ→Bool} {b ck:Nat} {es:Array MapEntry} {inn:List qS} {xs:List (κ×List β)}
end
end
section
open Go.RowKit
def H5 {κ ν:Type} (RK:aN κ) (ak:Bool) (RV:aN ν) (av:Bool) (T:Nat→Prop) (w:World) (v:Value) (xs:List (κ×ν)):Prop :=
  ∃ b es ck,v = .map (some b)∧¬ T b∧w.heap[b]? = some (.map es ck)∧bx RK ak RV av T w es xs
section
variable {κ ν:Type} {RK:aN κ} {ak:Bool} {RV:aN ν} {av:Bool}
theorem H5.keep {T T':Nat→Prop} {w w':World} {v:Value} {xs:List (κ×ν)} (h:H5 RK ak RV av T w v xs) (k:Kt T w w') (hn:Nw T T' w):H5 RK ak RV av T' w' v xs:=by
  obtain⟨b,es,ck,h1,h2,h3,h4⟩:=h
  have hl:=(Array.getElem?_eq_some_iff.1 h3).1
  exact⟨b,es,ck,h1,fun ht=>by rcases hn b ht with h | h; exact h2 h; omega,(k.block b hl h2).trans h3,h4.keep k hn⟩
theorem H5.one {T:Nat→Prop} {w:World} {v:Value} {xs:List (κ×ν)} (h:H5 RK ak RV av T w v xs):v.oneCell'=true:=by obtain⟨b,es,ck,rfl,_⟩:=h; rfl
end
section
variable {κ ν:Type} {P:Program} {W:World} {M T E:Nat→Prop} {n:Nat} {G G':List (Nat×Value)} {D D':List cx} {F F':List bU} {a:Act} {w w':World} {K:Act→World→Prop}
variable {kt et:TypeId} {RK:aN κ} {ak:Bool} {RV:aN ν} {av:Bool} {q:κ→κ→Bool} {b clock:Nat} {es:Array MapEntry} {xs:List (κ×ν)}
end
end
section
open Go.RowKit
def Wt (ops:Array Oper) (G:List (Nat×Value)) (o:Oper):Prop:=o.guard=none∨∃ (j t:Nat) (want c:Bool),o.guard=some (j,want)∧(ops[j]?).bind (·.dst)=some t∧lk G t=some (.bool c)∧c=want
section
variable {P:Program} {ops:Array Oper} {Q:Exit→Act→World→Prop}
theorem Wt.ok {mods:List (Nat×Tn)} {W:World} {M T:Nat→Prop} {n:Nat} {G:List (Nat×Value)} {D:List cx} {F:List bU} {a:Act} {w:World} {o:Oper} (hS:St W M T n G D F a w) (h:Wt ops G o):Region.wanted o (yielded ops a.tmps)=true:=by
  rcases h with h | ⟨j,t,want,c,h1,h2,h3,h4⟩
  · simp [Region.wanted,h]
  · rw [nk hS h1 h2 h3,h4]; simp
end
end
section
open Go.RowKit
theorem DL {α:Type} {xs:List α} {i:Int} {x:α} (h:be xs i=some x):xs.set i.toNat x=xs:=by
  obtain⟨_,_,h3⟩:=fg h
  obtain⟨h4,h5⟩:=List.getElem?_eq_some_iff.1 h3
  rw [← h5]; exact List.set_getElem_self h4
end
section
open Go.RowKit
structure gj (es:Array MapEntry) (ck:Nat):Prop where
  lt:∀ (i:Nat) (m:MapEntry),es[i]? = some m→m.born < ck
  inj:∀ (i j:Nat) (m m':MapEntry),es[i]? = some m→es[j]? = some m'→m.born=m'.born→i=j
theorem gj.nil:gj #[] 0:=⟨fun i m h=>by simp at h,fun i j m m' h=>by simp at h⟩
theorem gj.push {es:Array MapEntry} {ck:Nat} (h:gj es ck) (k v:Value):gj (es.push { key:=k,val:=v,born:=ck }) (ck + 1):=by
  have old:∀ (z:Nat) (m:MapEntry),(es.push { key:=k,val:=v,born:=ck })[z]? = some m→(z < es.size∧es[z]? = some m)∨(z=es.size∧m={ key:=k,val:=v,born:=ck }):=by
    intro z m hz
    rw [Array.getElem?_push] at hz
    split at hz
    · rename_i h; injection hz with hz; exact .inr ⟨h,hz.symm⟩
    · exact .inl ⟨(Array.getElem?_eq_some_iff.1 hz).1,hz⟩
  refine⟨fun z m hz=>?_,fun z z' m m' hz hz' hb=>?_⟩
  · rcases old z m hz with⟨_,h2⟩|⟨rfl,rfl⟩
    · have:=h.lt z m h2; omega
    · exact Nat.lt_succ_self _
  · rcases old z m hz with⟨_,h2⟩|⟨rfl,rfl⟩ <;> rcases old z' m' hz' with⟨_,h2'⟩|⟨rfl,rfl⟩
    · exact h.inj z z' m m' h2 h2' hb
    · have:=h.lt z m h2; simp only at hb; omega
    · have:=h.lt z' m' h2'; simp only at hb; omega
    · rfl
theorem sO {es:Array MapEntry} {p:Nat} {f:MapEntry→MapEntry} {z:Nat} {m:MapEntry} (hz:(es.modify p f)[z]? = some m):∃ m0,es[z]? = some m0∧m=if p=z then f m0 else m0:=by
  rw [Array.getElem?_modify] at hz
  split at hz
  · rename_i h
    obtain⟨m0,h1,rfl⟩:=Option.map_eq_some_iff.1 hz
    exact⟨m0,h1,by rw [if_pos h]⟩
  · rename_i h; exact⟨m,hz,by rw [if_neg h]⟩
theorem gj.modify {es:Array MapEntry} {ck:Nat} (h:gj es ck) (p:Nat) (f:MapEntry→MapEntry) (hf:∀ e,(f e).born=e.born):gj (es.modify p f) ck:=by
  have old:∀ (z:Nat) (m:MapEntry),(es.modify p f)[z]? = some m→∃ m0,es[z]? = some m0∧m.born=m0.born:=by
    intro z m hz
    obtain⟨m0,h1,rfl⟩:=sO hz
    refine⟨m0,h1,?_⟩
    split
    · exact hf m0
    · rfl
  refine⟨fun z m hz=>?_,fun z z' m m' hz hz' hb=>?_⟩
  · obtain⟨m0,h1,h2⟩:=old z m hz; rw [h2]; exact h.lt z m0 h1
  · obtain⟨m0,h1,h2⟩:=old z m hz
    obtain⟨m1,h3,h4⟩:=old z' m' hz'
    exact h.inj z z' m0 m1 h1 h3 (by rw [← h2,← h4]; exact hb)
theorem gj.nodup {es:Array MapEntry} {ck:Nat} (h:gj es ck):(es.toList.map (·.born)).Nodup:=by
  rw [List.nodup_iff_pairwise_ne,List.pairwise_iff_getElem]
  intro i j hi hj hij e
  simp only [List.getElem_map,Array.getElem_toList] at e
  simp only [List.length_map,Array.length_toList] at hi hj
  have:=h.inj i j _ _ (Array.getElem?_eq_getElem hi) (Array.getElem?_eq_getElem hj) e
  omega
theorem gj.find {es:Array MapEntry} {ck p:Nat} {m0:MapEntry} (h:gj es ck) (hm0:es[p]? = some m0):es.findIdx? (fun m=>(m.born:Int) == (m0.born:Int))=some p:=by
  rw [Array.findIdx?_eq_some_iff_getElem]
  obtain⟨h1,h2⟩:=Array.getElem?_eq_some_iff.1 hm0
  refine⟨h1,by simp [h2],fun z hz=>?_⟩
  have hzl:z < es.size:=by omega
  intro h3
  have h3:(es[z].born:Int)=(m0.born:Int):=by simpa using h3
  have:=h.inj z p _ _ (Array.getElem?_eq_getElem hzl) hm0 (by omega)
  omega
def uz (es:Array MapEntry) (ck:Nat):bU:=⟨fun _ _=>gj es ck,fun h _ _=>h⟩
def H2 {κ ν:Type} (RK:aN κ) (ak:Bool) (RV:aN ν) (av:Bool) (q:κ→κ→Bool) (es:Array MapEntry) (ck:Nat) (xs:List (κ×ν)) (key:κ) (s:Int):bU :=
  ⟨fun T w=>∃ (u:ν) (p:Nat) (m:MapEntry),bx RK ak RV av T w es (cT q key u xs)∧gj es ck∧es[p]? = some m∧s=m.born∧∀ y,(cT q key u xs).set p (key,y)=cT q key y xs,
   fun h k n=>by obtain⟨u,p,m,h1,h2⟩:=h; exact⟨u,p,m,h1.keep k n,h2⟩⟩
section
variable {κ ν:Type} {P:Program} {W:World} {M T E:Nat→Prop} {n:Nat} {G G':List (Nat×Value)} {D D':List cx} {F F':List bU} {a:Act} {w w':World} {K:Act→World→Prop}
variable {kt et:TypeId} {RK:aN κ} {ak:Bool} {RV:aN ν} {av:Bool} {q:κ→κ→Bool} {b clock:Nat} {es:Array MapEntry} {xs:List (κ×ν)}
theorem B4 {t:TypeId} (ht:Bf P t=some (kt,et)) (hK:tU P kt RK ak q) {T:Nat→Prop} {w w0:World} (hr:w.heap[b]? = some (.map es clock)) (hm:bx RK ak RV av T w0 es xs) (hB:gj es clock) {c cv:List Value} {key:κ} {val:ν} (hc:RK.rel T w0 c key) (hv:RV.rel T w0 cv val) :
    ∃ es' ck',(Instr.mapUpdate t (.map (some b)) (aX ak c) (aX av cv)).run P w = .ok () { w with heap:=w.heap.setIfInBounds b (.map es' ck') }∧bx RK ak RV av T w0 es' (cT q key val xs)∧gj es' ck':=by
  obtain⟨hl,hkeys⟩:=rZ hm
  have hf:=oP hK hc w hl hkeys
  have hch:=hK.check false _ _ w _ _ hc
  cases hp:qA q key xs with
  | none =>
    obtain⟨_,g2,_⟩:=oD hp
    rw [hp] at hf
    refine⟨es.push { key:=aX ak c,val:=aX av cv,born:=clock },clock + 1,?_,⟨by rw [g2]; simp [hm.1],fun z e x he hx=>?_⟩,hB.push _ _⟩
    · simp [Instr.mapUpdate,run_underlying (kd ht),se hr,hch,hf,uY,yr _ hr]
    · rw [g2] at hx
      by_cases hz:z < xs.length
      · rw [List.getElem?_append_left hz] at hx
        rw [Array.getElem?_push_lt (by rw [hm.1]; exact hz)] at he
        exact hm.2 z e x (by rw [← he]; exact (Array.getElem?_eq_getElem _)) hx
      · rw [List.getElem?_append_right (by omega)] at hx
        obtain rfl:z=xs.length:=by
          rcases Nat.lt_or_ge xs.length z with h | h
          · rw [List.getElem?_eq_none (by simp; omega)] at hx; cases hx
          · omega
        simp at hx
        subst hx
        rw [← hm.1,Array.getElem?_push_size] at he
        simp only [Option.some.injEq] at he
        subst he
        exact⟨⟨c,hc,rfl⟩,cv,hv,rfl⟩
  | some p =>
    obtain⟨x0,hx0,hq0,_,g2,_⟩:=oE hp
    have hpi:p < es.size:=by rw [hm.1]; exact (List.getElem?_eq_some_iff.1 hx0).1
    have he0:es[p]? = some es[p]:=Array.getElem?_eq_getElem hpi
    obtain⟨⟨d0,hd0,hk0⟩,_⟩:=hm.2 p _ x0 he0 hx0
    have hbits:=hK.bits _ _ _ _ _ _ _ _ hc hd0 hq0
    rw [hp] at hf
    refine⟨es.modify p fun e=>{ e with key:=aX ak c,val:=aX av cv },clock,?_,⟨by rw [g2]; simp [hm.1],fun z e x he hx=>?_⟩,hB.modify p _ fun _=>rfl⟩
    · have hat:uY es.toList 0 (some p)=some (p,es[p].val):=by simp [uY,he0]
      rw [hat] at hf
      have hkt:(Instr.keyThatStays (((es[p]?).map (·.key)).getD (aX ak c)) (aX ak c)).run P w = .ok (aX ak c) w:=by
        rw [he0]
        simp only [Option.map_some,Option.getD_some,hk0,Instr.keyThatStays,hbits,if_true,Sem.run_pure]
      simp only [Instr.mapUpdate,Sem.run_bind,run_underlying (kd ht),Result.andThen_ok,se hr,hch,hf,hkt,yr _ hr]
    · rw [g2] at hx
      by_cases hz:p=z
      · subst hz
        rw [List.getElem?_set_self (by rw [← hm.1]; exact hpi)] at hx
        simp only [Option.some.injEq] at hx
        subst hx
        rw [Array.getElem?_modify,if_pos rfl,he0] at he
        simp only [Option.map_some,Option.some.injEq] at he
        subst he
        exact⟨⟨c,hc,rfl⟩,cv,hv,rfl⟩
      · rw [List.getElem?_set_ne hz] at hx
        rw [Array.getElem?_modify,if_neg hz] at he
        exact hm.2 z e x he hx
theorem vR {d:Nat} {t ty:TypeId} {pos:String} {af:Array Edge} {g:Option (Nat×Bool)} (RK:aN κ) (ak:Bool) (RV:aN ν) (av:Bool) (hS:St W M T n G D F a w) (hn:Nat.blt d n=true)
    (k:∀ b,w.heap.size≤b→∀ a w',Kt No w w'→St W M T n ((d,.map (some b)) :: G) (.obj b (.map #[] 0) :: D) (uz #[] 0 :: mS RK ak RV av #[] [] :: F) a w'→K a w'):oA P ⟨some d,.makeMap t none,ty,pos,af,g⟩ a w K :=
  ol RK ak RV av hS hn fun b hb a w' hk hS=>k b hb a w' hk (hS.fact _ gj.nil)
theorem x6 {t ty:TypeId} {X Y Z:Operand} {pos:String} {af:Array Edge} {g:Option (Nat×Bool)} (hS:St W M T n G D F a w) (ht:Bf P t=some (kt,et)) (hK:tU P kt RK ak q) (i:Nat) (hi:D[i]? = some (.obj b (.map es clock))) (j:Nat) (hj:F[j]? = some (mS RK ak RV av es xs)) (jb:Nat) (hb:F[jb]? = some (uz es clock))
    {c cv:List Value} {key:κ} {val:ν} (hc:RK.rel (dT T D) w c key) (hv:RV.rel (dT T D) w cv val) (hX:ev G X=some (.map (some b))) (hY:ev G Y=some (aX ak c)) (hZ:ev G Z=some (aX av cv))
    (k:∀ es' ck' w',Kt (fun j=>j=b) w w'→St W M T n G (D.set i (.obj b (.map es' ck'))) (uz es' ck' :: mS RK ak RV av es' (cT q key val xs) :: F) a w'→K a w'):oA P ⟨none,.mapUpdate t X Y Z,ty,pos,af,g⟩ a w K:=by
  have hr:w.heap[b]? = some (.map es clock):=hS.own _ (List.mem_of_getElem? hi)
  obtain⟨es',ck',hrun,hok,hB⟩:=B4 ht hK hr (hS.mapOk j hj) (hS.get jb hb) hc hv
  refine zd (w':={ w with heap:=w.heap.setIfInBounds b (.map es' ck') }) (by simp [execOp,hS.ev hX,hS.ev hY,hS.ev hZ,hrun]) (k es' ck' _ ((ni hr).mono fun j hj=>(Option.some.inj hj).symm) ?_)
  exact ((hS.fact (mS RK ak RV av es' _) hok).fact (uz es' ck') hB).turn hi (ni hr) (r':=.obj b (.map es' ck')) (nI hr).1 fun j hj=>.inl hj
theorem vQ {t ty:TypeId} {X Y Z:Operand} {pos:String} {af:Array Edge} {g:Option (Nat×Bool)} (hS:St W M T n G D F a w) (ht:Bf P t=some (kt,et)) (hK:tU P kt RK ak q) (i:Nat) (hi:D[i]? = some (.obj b (.map es clock))) (j:Nat) (hj:F[j]? = some (mS RK ak RV av es xs)) (jb:Nat) (hb:F[jb]? = some (uz es clock))
    {c cv:List Value} {key:κ} {val:ν} (hc:RK.rel (dT T D) w c key) (hv:RV.rel (dT T D) w cv val) (hX:ev G X=some (.map (some b))) (hY:ev G Y=some (aX ak c)) (hZ:ev G Z=some (aX av cv))
    (k:∀ es' ck' w',Kt (fun j=>j=b) w w'→St W M T n G (D.set i (.obj b (.map es' ck'))) (uz es' ck' :: mS RK ak RV av es' (cT q key val xs) :: F) a w'→K a w'):oA P ⟨none,.insert t X Y Z,ty,pos,af,g⟩ a w K :=
  x6 (ty:=ty) (pos:=pos) (af:=af) (g:=g) hS ht hK i hi j hj jb hb hc hv hX hY hZ k
theorem BX {d:Nat} {t ty:TypeId} {X Y:Operand} {pos:String} {af:Array Edge} {g:Option (Nat×Bool)} (hS:St W M T n G D F a w) (hd:Nat.blt d n=true) (ht:Bf P t=some (kt,et)) (hK:tU P kt RK ak q) (i:Nat) (hi:D[i]? = some (.obj b (.map es clock))) (j:Nat) (hj:F[j]? = some (mS RK ak RV av es xs)) (jb:Nat) (hb:F[jb]? = some (uz es clock))
    {c:List Value} {key:κ} (hc:RK.rel (dT T D) w c key) {z:Value} {zc:List Value} {z0:ν} (hz:Gi P et=some z) (hzc:z=aX av zc) (hz0:RV.rel (dT T D) w zc z0) (hX:ev G X=some (.map (some b))) (hY:ev G Y=some (aX ak c))
    (k:∀ v es' ck' (s:Int) a w',Kt (fun j=>j=b) w w'→St W M T n ((d,.tuple #[v,.int .i64 s]) :: G) (D.set i (.obj b (.map es' ck'))) (H2 RK ak RV av q es' ck' xs key s :: F) a w'→K a w'):oA P ⟨some d,.mapEntry t X Y,ty,pos,af,g⟩ a w K:=by
  have hr:w.heap[b]? = some (.map es clock):=hS.own _ (List.mem_of_getElem? hi)
  have hm:=hS.mapOk j hj
  have hB:gj es clock:=hS.get jb hb
  obtain⟨hl,hkeys⟩:=rZ hm
  have hf:=oP hK hc w hl hkeys
  have hch:=hK.check false _ _ w _ _ hc
  have hzr:=yD (P:=P) hz w
  cases hp:qA q key xs with
  | none =>
    obtain⟨_,g2,_⟩:=oD hp
    rw [hp] at hf
    have hrun:(execOp a.eval ⟨some d,.mapEntry t X Y,ty,pos,af,g⟩).run P w = .ok (.value (.tuple #[z,.int .i64 clock])) { w with heap:=w.heap.setIfInBounds b (.map (es.push { key:=aX ak c,val:=z,born:=clock }) (clock + 1)) }:=by
      simp [execOp,hS.ev hX,hS.ev hY,Instr.mapEntry,run_underlying (kd ht),se hr,hch,hf,uY,yr _ hr,hzr,goInt]
    refine sf hrun (k z (es.push { key:=aX ak c,val:=z,born:=clock }) (clock + 1) clock _ _ ((ni hr).mono fun j hj=>(Option.some.inj hj).symm) ?_)
    refine St.put ?_ hd _
    refine (hS.fact (H2 RK ak RV av q _ (clock + 1) xs key clock) ?_).turn hi (ni hr) (r':=.obj b (.map (es.push { key:=aX ak c,val:=z,born:=clock }) (clock + 1))) (nI hr).1 fun j hj=>.inl hj
    refine⟨z0,xs.length,{ key:=aX ak c,val:=z,born:=clock },⟨by rw [g2]; simp [hm.1],fun y e x he hx=>?_⟩,hB.push _ _,by rw [← hm.1,Array.getElem?_push_size],rfl,fun y=>by rw [g2,g2,List.set_append_right _ _ (Nat.le_refl _)]; simp⟩
    rw [g2] at hx
    by_cases hz:y < xs.length
    · rw [List.getElem?_append_left hz] at hx
      rw [Array.getElem?_push_lt (by rw [hm.1]; exact hz)] at he
      exact hm.2 y e x (by rw [← he]; exact (Array.getElem?_eq_getElem _)) hx
    · rw [List.getElem?_append_right (by omega)] at hx
      obtain rfl:y=xs.length:=by
        rcases Nat.lt_or_ge xs.length y with h | h
        · rw [List.getElem?_eq_none (by simp; omega)] at hx; cases hx
        · omega
      simp at hx
      subst hx
      rw [← hm.1,Array.getElem?_push_size] at he
      simp only [Option.some.injEq] at he
      subst he
      exact⟨⟨c,hc,rfl⟩,zc,hz0,hzc⟩
  | some p =>
    obtain⟨x0,hx0,hq0,_,g2,_⟩:=oE hp
    have hpi:p < es.size:=by rw [hm.1]; exact (List.getElem?_eq_some_iff.1 hx0).1
    have hpx:p < xs.length:=(List.getElem?_eq_some_iff.1 hx0).1
    have he0:es[p]? = some es[p]:=Array.getElem?_eq_getElem hpi
    obtain⟨⟨d0,hd0,hk0⟩,cv0,hcv0,hv0⟩:=hm.2 p _ x0 he0 hx0
    have hbits:=hK.bits _ _ _ _ _ _ _ _ hc hd0 hq0
    rw [hp] at hf
    have hat:uY es.toList 0 (some p)=some (p,es[p].val):=by simp [uY,he0]
    rw [hat] at hf
    have hkt:(Instr.keyThatStays es[p].key (aX ak c)).run P w = .ok (aX ak c) w:=by
      simp only [hk0,Instr.keyThatStays,hbits,if_true,Sem.run_pure]
    have hrun:(execOp a.eval ⟨some d,.mapEntry t X Y,ty,pos,af,g⟩).run P w = .ok (.value (.tuple #[es[p].val,.int .i64 es[p].born])) { w with heap:=w.heap.setIfInBounds b (.map (es.modify p fun m=>{ m with key:=aX ak c }) clock) }:=by
      have h5:(Instr.mapEntry t (.map (some b)) (aX ak c)).run P w = .ok (.tuple #[es[p].val,.int .i64 es[p].born]) { w with heap:=w.heap.setIfInBounds b (.map (es.modify p fun m=>{ m with key:=aX ak c }) clock) }:=by
        simp only [Instr.mapEntry,Sem.run_bind,run_underlying (kd ht),Result.andThen_ok,se hr,hch,hf,hkt,yr _ hr,Sem.run_pure,goInt,he0,Option.map_some,Option.getD_some]
      simp only [execOp,hS.ev hX,hS.ev hY,Sem.run_bind,h5,Result.andThen_ok,Sem.run_pure]
    refine sf hrun (k es[p].val (es.modify p fun m=>{ m with key:=aX ak c }) clock es[p].born _ _ ((ni hr).mono fun j hj=>(Option.some.inj hj).symm) ?_)
    refine St.put ?_ hd _
    refine (hS.fact (H2 RK ak RV av q _ clock xs key es[p].born) ?_).turn hi (ni hr) (r':=.obj b (.map (es.modify p fun m=>{ m with key:=aX ak c }) clock)) (nI hr).1 fun j hj=>.inl hj
    refine⟨x0.2,p,{ es[p] with key:=aX ak c },⟨by rw [g2]; simp [hm.1],fun y e x he hx=>?_⟩,hB.modify p _ fun _=>rfl,by rw [Array.getElem?_modify,if_pos rfl,he0]; rfl,rfl,fun y=>by rw [g2,g2,List.set_set]⟩
    obtain⟨m0,h1,h2⟩:=sO he
    rw [g2,List.getElem?_set] at hx
    by_cases hz:p=y
    · subst hz
      rw [if_pos rfl,if_pos hpx] at hx
      simp only [Option.some.injEq] at hx
      subst hx
      rw [if_pos rfl] at h2
      rw [he0] at h1
      obtain rfl:=Option.some.inj h1
      subst h2
      exact⟨⟨c,hc,rfl⟩,cv0,hcv0,hv0⟩
    · rw [if_neg hz] at hx h2
      subst h2
      exact hm.2 y _ x h1 hx
theorem BY {t ty:TypeId} {X Y Z:Operand} {pos:String} {af:Array Edge} {g:Option (Nat×Bool)} {key:κ} {s:Int} {cv:List Value} {val:ν} (hS:St W M T n G D F a w) (i:Nat) (hi:D[i]? = some (.obj b (.map es clock))) (j:Nat) (hj:F[j]? = some (H2 RK ak RV av q es clock xs key s)) (hv:RV.rel (dT T D) w cv val) (hX:ev G X=some (.map (some b))) (hY:ev G Y=some (.int .i64 s)) (hZ:ev G Z=some (aX av cv))
    (k:∀ es' w',Kt (fun j=>j=b) w w'→St W M T n G (D.set i (.obj b (.map es' clock))) (uz es' clock :: mS RK ak RV av es' (cT q key val xs) :: F) a w'→K a w'):oA P ⟨none,.entryStore t X Y Z,ty,pos,af,g⟩ a w K:=by
  have hr:w.heap[b]? = some (.map es clock):=hS.own _ (List.mem_of_getElem? hi)
  obtain⟨u,p,m0,hm,hB,hm0,rfl,hset'⟩:(H2 RK ak RV av q es clock xs key s).p (dT T D) w:=hS.get j hj
  have hfi:=hB.find hm0
  have hrun:(execOp a.eval ⟨none,.entryStore t X Y Z,ty,pos,af,g⟩).run P w = .ok .skip { w with heap:=w.heap.setIfInBounds b (.map (es.modify p fun m=>{ m with val:=aX av cv }) clock) }:=by
    have h5:(Instr.entryStore t (.map (some b)) (.int .i64 (m0.born:Int)) (aX av cv)).run P w = .ok () { w with heap:=w.heap.setIfInBounds b (.map (es.modify p fun m=>{ m with val:=aX av cv }) clock) }:=by
      simp only [Instr.entryStore,Sem.run_bind,se hr,Result.andThen_ok,asInt,asIntOf,Sem.run_pure,hfi,yr _ hr]
    simp only [execOp,hS.ev hX,hS.ev hY,hS.ev hZ,Sem.run_bind,h5,Result.andThen_ok,Sem.run_pure]
  refine zd hrun (k (es.modify p fun m=>{ m with val:=aX av cv }) _ ((ni hr).mono fun j hj=>(Option.some.inj hj).symm) ?_)
  refine ((hS.fact (mS RK ak RV av (es.modify p fun m=>{ m with val:=aX av cv }) (cT q key val xs)) ?_).fact (uz (es.modify p fun m=>{ m with val:=aX av cv }) clock) (hB.modify p _ fun _=>rfl)).turn hi (ni hr) (r':=.obj b (.map (es.modify p fun m=>{ m with val:=aX av cv }) clock)) (nI hr).1 fun j hj=>.inl hj
  rw [← hset' val]
  refine⟨by simp [hm.1],fun y e x he hx=>?_⟩
  obtain⟨m1,h1,h2⟩:=sO he
  rw [List.getElem?_set] at hx
  by_cases hz:p=y
  · subst hz
    have hpx:p < (cT q key u xs).length:=by rw [← hm.1]; exact (Array.getElem?_eq_some_iff.1 h1).1
    rw [if_pos rfl,if_pos hpx] at hx
    simp only [Option.some.injEq] at hx
    subst hx
    rw [if_pos rfl] at h2
    subst h2
    obtain⟨⟨d,hd,hk⟩,_⟩:=hm.2 p m1 _ h1 (List.getElem?_eq_getElem hpx)
    have hkk:(cT q key u xs)[p].1=key:=by
      have h6:=hset' u
      have h7:=congrArg (fun l=>l[p]?) h6
      simp only [List.getElem?_set,if_true,hpx,List.getElem?_eq_getElem hpx,Option.some.injEq] at h7
      rw [← h7]
    exact⟨⟨d,by rw [hkk] at hd; exact hd,hk⟩,cv,hv,rfl⟩
  · rw [if_neg hz] at hx h2
    subst h2
    exact hm.2 y _ x h1 hx
end
end
section
open Go.RowKit
def nH {κ ν S:Type} (B:S→κ→ν→Option S):S→List (κ×ν)→Option S
  | s,[]=>some s
  | s,x :: l=>(B s x.1 x.2).bind fun s'=>nH B s' l
open Classical in
noncomputable def uk {κ ν S:Type} (B:S→κ→ν→Option S) (xs:List (κ×ν)) (s0:S):Option S :=
  if h:∃ y,∀ p:List (κ×ν),p.Perm xs→nH B s0 p=some y then some h.choose else none
theorem Av {κ ν S:Type} {B:S→κ→ν→Option S} {xs:List (κ×ν)} {s0 y:S} (h:uk B xs s0=some y):∀ p:List (κ×ν),p.Perm xs→nH B s0 p=some y:=by
  unfold uk at h
  split at h
  · rename_i hx
    obtain rfl:=Option.some.inj h
    exact hx.choose_spec
  · cases h
theorem B9 {κ ν S:Type} {B:S→κ→ν→Option S} {xs:List (κ×ν)} {s0 y:S} (h:∀ p:List (κ×ν),p.Perm xs→nH B s0 p=some y):uk B xs s0=some y:=by
  have hx:∃ y,∀ p:List (κ×ν),p.Perm xs→nH B s0 p=some y:=⟨y,h⟩
  unfold uk
  rw [dif_pos hx]
  have h1:=hx.choose_spec xs (List.Perm.refl _)
  rw [h xs (List.Perm.refl _)] at h1
  exact h1.symm
theorem BR {κ ν S:Type} {B:S→κ→ν→Option S} {rest rest':List (κ×ν)} {k:κ} {v:ν} {s y:S} (hp:rest.Perm ((k,v) :: rest')) (h:∀ p:List (κ×ν),p.Perm rest→nH B s p=some y) :
    ∃ s',B s k v=some s'∧∀ p:List (κ×ν),p.Perm rest'→nH B s' p=some y:=by
  have h1:=h ((k,v) :: rest') hp.symm
  rw [nH] at h1
  cases hb:B s k v with
  | none=>rw [hb] at h1; cases h1
  | some s' =>
    refine⟨s',rfl,fun p hp'=>?_⟩
    have h2:=h ((k,v) :: p) ((List.Perm.cons (k,v) hp').trans hp.symm)
    rw [nH,hb] at h2
    exact h2
theorem Fh {κ ν S:Type} {B:S→κ→ν→Option S} {rest:List (κ×ν)} {s y:S} (h0:rest=[]) (h:∀ p:List (κ×ν),p.Perm rest→nH B s p=some y):s=y:=by
  subst h0
  exact Option.some.inj (h [] (List.Perm.refl _))
theorem yp {α:Type} {rest rest':List α} {x:α} (hp:rest.Perm (x :: rest')):rest'.length < rest.length:=by
  rw [hp.length_eq]; exact Nat.lt_succ_self _
section
variable {P:Program} {a:Act} {w:World} {Q:Exit→Act→World→Prop}
theorem HP {κ ν S:Type} {c:Code} (B:S→κ→ν→Option S) (I:S→List (κ×ν)→Act→World→Prop) {s0 y:S} {xs:List (κ×ν)} (hl:∀ p:List (κ×ν),p.Perm xs→nH B s0 p=some y) (h0:I s0 xs a w)
    (round:∀ s rest a w,I s rest a w→(∀ p:List (κ×ν),p.Perm rest→nH B s p=some y)→c.wp P (Exit.then (fun a' w'=>∃ s' rest',rest'.length < rest.length∧(∀ p:List (κ×ν),p.Perm rest'→nH B s' p=some y)∧I s' rest' a' w') Q) a w):(Code.loop c).wp P Q a w:=by
  intro b k cs
  have key:∀ N s rest a w,rest.length < N→(∀ p:List (κ×ν),p.Perm rest→nH B s p=some y)→I s rest a w→∃ e a' w',Q e a' w'∧Arrives P (lone (b.at a (.code c :: .inLoop c :: k)) cs w) b k cs e a' w':=by
    intro N
    induction N with
    | zero=>intro s rest a w h; omega
    | succ N ih =>
      intro s rest a w h hs hI
      obtain⟨e,a₁,w₁,hq,harr⟩:=round s rest a w hI hs b (.inLoop c :: k) cs
      cases e with
      | normal =>
        obtain⟨s',rest',h1,h2,h3⟩:=hq
        obtain⟨e₂,a₂,w₂,hq₂,harr₂⟩:=ih s' rest' a₁ w₁ (by omega) h2 h3
        exact⟨e₂,a₂,w₂,hq₂,.of_steps (Steps.trans harr (.one step_inLoop)) harr₂⟩
      | exit id=>exact⟨_,a₁,w₁,hq,.pass (x:=.inLoop c) rfl (fun _ _=>.inl (by simp)) harr⟩
      | goto l=>exact⟨_,a₁,w₁,hq,.pass (x:=.inLoop c) rfl (fun _ _=>.inl (by simp)) harr⟩
      | ret=>exact⟨_,a₁,w₁,hq,.pass (x:=.inLoop c) rfl (fun _ _=>.inl (by simp)) harr⟩
      | panic ch=>exact⟨_,a₁,w₁,hq,.pass (x:=.inLoop c) rfl (fun _ _=>.inl (by simp)) harr⟩
      | outgrown=>exact⟨_,a₁,w₁,hq,.pass (x:=.inLoop c) rfl (fun _ _=>.inl (by simp)) harr⟩
  obtain⟨e,a',w',hq,harr⟩:=key (xs.length + 1) s0 xs a w (by omega) hl h0
  exact⟨e,a',w',hq,.of_steps (.one step_loop) harr⟩
theorem DU {x:Code} (J:Act→World→Prop) (h1:x.wp P (Exit.then J Q) a w) (h2:∀ a w,J a w→Q .normal a w):x.wp P Q a w :=
  wp_mono h1 fun e a w h=>by cases e <;> first | exact h2 a w h | exact h
theorem GJ {fn:Func} {R:Ending→World→Prop} (h:bodyPost P fn R .ret a w):bodyPost P fn R .normal a w:=h
end
def pj {κ ν:Type} (es:Array MapEntry) (seen:Array Nat) (xs:List (κ×ν)):List (κ×ν):=((es.toList.zip xs).filter fun p=>!seen.contains p.1.born).map (·.2)
theorem Ay {κ ν:Type} {es:Array MapEntry} {xs:List (κ×ν)} (h:es.size=xs.length):pj es #[] xs=xs:=by
  unfold pj
  rw [List.filter_eq_self.2 (fun p _=>by simp)]
  exact List.map_snd_zip (by simp [h])
theorem uH {α:Type} {P P':α→Bool}:∀ (Z:List α) (i:Nat) (p:α),Z[i]? = some p→P p=true→P' p=false→(∀ j q,Z[j]? = some q→j ≠ i→P' q=P q)→(Z.filter P).Perm (p :: Z.filter P')
  | [],i,p,h,_,_,_=>by simp at h
  | z :: Z,0,p,h,h1,h2,h3=>by
    simp only [List.getElem?_cons_zero,Option.some.injEq] at h
    subst h
    rw [List.filter_cons_of_pos h1,List.filter_cons_of_neg (by rw [h2]; simp)]
    have:Z.filter P'=Z.filter P:=List.filter_congr fun q hq=>by
      obtain⟨j,hj⟩:=List.mem_iff_getElem?.1 hq
      exact h3 (j + 1) q (by simpa using hj) (by omega)
    rw [this]
  | z :: Z,i + 1,p,h,h1,h2,h3=>by
    have ih:=uH Z i p (by simpa using h) h1 h2 fun j q hj hn=>h3 (j + 1) q (by simpa using hj) (by omega)
    have hz:=h3 0 z rfl (by omega)
    cases hp:P z with
    | true =>
      rw [List.filter_cons_of_pos hp,List.filter_cons_of_pos (by rw [hz]; exact hp)]
      exact (List.Perm.cons z ih).trans (List.Perm.swap p z _)
    | false =>
      rw [List.filter_cons_of_neg (by rw [hp]; simp),List.filter_cons_of_neg (by rw [hz,hp]; simp)]
      exact ih
def Ed (es:Array MapEntry) (seen:Array Nat) (kv vv:Value):bU:=⟨fun _ _=>∃ (s0:Array Nat) (e:MapEntry),seen=Array.push s0 e.born∧e ∈ es.toList∧e.key=kv∧e.val=vv,fun h _ _=>h⟩
section
variable {κ ν:Type} {P:Program} {W:World} {M T E:Nat→Prop} {n:Nat} {G G':List (Nat×Value)} {D D':List cx} {F F':List bU} {a:Act} {w w':World} {K:Act→World→Prop}
variable {kt et:TypeId} {RK:aN κ} {ak:Bool} {RV:aN ν} {av:Bool} {q:κ→κ→Bool} {b r ck:Nat} {es:Array MapEntry} {seen:Array Nat} {xs:List (κ×ν)}
theorem Cd (h:(leftOf es seen).size=0):pj es seen xs=[]:=by
  unfold pj
  rw [List.map_eq_nil_iff,List.filter_eq_nil_iff]
  rintro⟨e,x⟩ hp hn
  have he:=(List.of_mem_zip hp).1
  have:e ∈ (leftOf es seen).toList:=by
    unfold leftOf
    simp only [Array.toList_filter,List.mem_filter]
    exact⟨he,hn⟩
  have h2:(leftOf es seen).toList=[]:=List.eq_nil_of_length_eq_zero (by simpa using h)
  rw [h2] at this
  cases this
theorem Ce {T:Nat→Prop} {w:World} {e:MapEntry} (hm:es.size=xs.length) (hB:gj es ck) (he:e ∈ (leftOf es seen).toList) :
    ∃ (i:Nat) (x:κ×ν),es[i]? = some e∧xs[i]? = some x∧(pj es seen xs).Perm (x :: pj es (seen.push e.born) xs):=by
  unfold leftOf at he
  simp only [Array.toList_filter,List.mem_filter] at he
  obtain⟨he,hn⟩:=he
  obtain⟨i,hi⟩:=List.mem_iff_getElem?.1 he
  have hil:i < xs.length:=by rw [← hm]; have:=(List.getElem?_eq_some_iff.1 hi).1; simpa using this
  have hx:xs[i]? = some xs[i]:=List.getElem?_eq_getElem hil
  refine⟨i,xs[i],by rw [← Array.getElem?_toList]; exact hi,hx,?_⟩
  have hz:(es.toList.zip xs)[i]? = some (e,xs[i]):=by rw [List.getElem?_zip_eq_some]; exact⟨hi,hx⟩
  have h1:=uH (P:=fun p:MapEntry×(κ×ν)=>!seen.contains p.1.born) (P':=fun p=>!(seen.push e.born).contains p.1.born) (es.toList.zip xs) i (e,xs[i]) hz hn (by simp) (fun j p hj hji=>by
    rw [List.getElem?_zip_eq_some] at hj
    have hne:p.1.born ≠ e.born:=fun hb=>hji (hB.inj j i p.1 e (by rw [← Array.getElem?_toList]; exact hj.1) (by rw [← Array.getElem?_toList]; exact hi) hb)
    simp [hne])
  unfold pj
  exact h1.map (fun p:MapEntry×(κ×ν)=>p.2)
theorem E3 {d:Nat} {t ty:TypeId} {X:Operand} {pos:String} {af:Array Edge} {g:Option (Nat×Bool)} (hS:St W M T n G D F a w) (hn:Nat.blt d n=true) (ht:Bf P t=some (kt,et)) (i:Nat) (hi:D[i]? = some (.obj b (.map es ck))) (hX:ev G X=some (.map (some b)))
    (k:∀ r,w.heap.size≤r→∀ a w',Kt No w w'→St W M T n ((d,.pointer (some ⟨r,0,none⟩)) :: G) (.obj r (.mapIter (some b) ck #[] ck) :: D) F a w'→K a w'):oA P ⟨some d,.range t X,ty,pos,af,g⟩ a w K:=by
  have hb:w.heap[b]? = some (.map es ck):=hS.own _ (List.mem_of_getElem? hi)
  have hr:(execOp a.eval ⟨some d,.range t X,ty,pos,af,g⟩).run P w = .ok (.value (.pointer (some ⟨w.heap.size,0,none⟩))) (w.alloc (.mapIter (some b) ck #[] ck)):=by
    simp [execOp,hS.ev hX,Instr.range,run_underlying (kd ht),se hb]
  refine sf hr (k w.heap.size (Nat.le_refl _) _ _ (Kt.alloc _ _) ?_)
  exact (hS.add (Kt.alloc _ _) (.obj w.heap.size (.mapIter (some b) ck #[] ck)) (heap_alloc_new w _) (fun k hk=>by simp only [cx.dom,Option.some.injEq] at hk; omega)).put hn _
theorem Hq {d:Nat} {ty:TypeId} {X:Operand} {pos:String} {af:Array Edge} {g:Option (Nat×Bool)} (hS:St W M T n G D F a w) (hn:Nat.blt d n=true) (hX:ev G X=some (.pointer (some ⟨r,0,none⟩))) (i:Nat) (hi:D[i]? = some (.obj b (.map es ck))) (m:Nat) (hm:D[m]? = some (.obj r (.mapIter (some b) ck seen ck))) (him:i ≠ m) (j:Nat) (hj:F[j]? = some (mS RK ak RV av es xs)) (jb:Nat) (hjb:F[jb]? = some (uz es ck))
    (k0:pj es seen xs=[]→∀ a,St W M T n ((d,.tuple #[.bool false]) :: G) D F a w→K a w)
    (k1:∀ (kx:κ) (vx:ν) (kc vc:List Value) (seen':Array Nat) a w',Kt (fun j=>j=r) w w'→RK.rel (dT T (D.set m (.obj r (.mapIter (some b) ck seen' ck)))) w' kc kx→RV.rel (dT T (D.set m (.obj r (.mapIter (some b) ck seen' ck)))) w' vc vx→(pj es seen xs).Perm ((kx,vx) :: pj es seen' xs)→St W M T n ((d,.tuple #[.bool true,aX ak kc,aX av vc]) :: G) (D.set m (.obj r (.mapIter (some b) ck seen' ck))) (Ed es seen' (aX ak kc) (aX av vc) :: F) a w'→K a w'):oA P ⟨some d,.next X false,ty,pos,af,g⟩ a w K:=by
  have hb:w.heap[b]? = some (.map es ck):=hS.own _ (List.mem_of_getElem? hi)
  have hr:w.heap[r]? = some (.mapIter (some b) ck seen ck):=hS.own _ (List.mem_of_getElem? hm)
  have hB:gj es ck:=hS.get jb hjb
  have hold:∀ x ∈ es.toList,x.born < ck:=fun x hx=>by
    obtain⟨z,hz⟩:=List.mem_iff_getElem?.1 hx
    exact hB.lt z x (by rw [← Array.getElem?_toList]; exact hz)
  rcases run_next_at (P:=P) w ty r b ck ck seen es ck hr hb hold (Nat.le_refl _) with⟨h0,hrun⟩|⟨e,he,w1,hw1,hrun⟩
  · exact sf (w':=w) (by simp [execOp,hS.ev hX,hrun]) (k0 (Cd h0) _ (hS.put hn _))
  · obtain⟨z,x,h1,h2,h3⟩:=Ce (T:=T) (w:=w) (hS.mapOk j hj).1 hB he
    have hS1:St W M T n G D F a w1:=by
      rcases hw1 with rfl | rfl
      · exact hS
      · exact hS.later (Kt.drew w)
    have hr1:w1.heap[r]? = some (.mapIter (some b) ck seen ck):=hS1.own _ (List.mem_of_getElem? hm)
    have hk1:Kt (fun j=>some r=some j) w1 (Go.ChangeMaps.setBlock w1 r (.mapIter (some b) ck (seen.push e.born) ck)):=ni hr1
    have hk:Kt (fun j=>j=r) w (Go.ChangeMaps.setBlock w1 r (.mapIter (some b) ck (seen.push e.born) ck)):=by
      have h5:Kt (fun j=>j=r) w w1:=by
        rcases hw1 with rfl | rfl
        · exact Kt.refl _ _
        · exact (Kt.drew w).no
      exact h5.trans (hk1.mono fun j hj=>(Option.some.inj hj).symm)
    have hS2:=hS1.turn hm hk1 (r':=.obj r (.mapIter (some b) ck (seen.push e.born) ck)) (nI hr1).1 fun j hj=>.inl hj
    obtain⟨⟨kc,q1,q2⟩,vc,q3,q4⟩:=(hS2.mapOk j hj).2 z e x h1 h2
    refine sf (v:=.tuple #[.bool true,aX ak kc,aX av vc]) (w':=Go.ChangeMaps.setBlock w1 r (.mapIter (some b) ck (seen.push e.born) ck)) (by rw [← q2,← q4]; simp [execOp,hS.ev hX,hrun]) (k1 x.1 x.2 kc vc (seen.push e.born) _ _ hk q1 q3 h3 ?_)
    exact (hS2.fact (Ed es (seen.push e.born) (aX ak kc) (aX av vc)) ⟨seen,e,rfl,List.mem_of_getElem? (by rw [Array.getElem?_toList]; exact h1),q2,q4⟩).put hn _
theorem Ft {d:Option Nat} {ty:TypeId} {X:Operand} {pos:String} {af:Array Edge} {g:Option (Nat×Bool)} {kv vv:Value} (hS:St W M T n G D F a w) (hX:ev G X=some (.pointer (some ⟨r,0,none⟩))) (i:Nat) (hi:D[i]? = some (.obj b (.map es ck))) (m:Nat) (hm:D[m]? = some (.obj r (.mapIter (some b) ck seen ck))) (jb:Nat) (hjb:F[jb]? = some (uz es ck)) (jc:Nat) (hjc:F[jc]? = some (Ed es seen kv vv)) :
    Ye P ⟨d,.entry X,ty,pos,af,g⟩ a No w (.tuple #[kv,vv]):=fun w' hk=>by
  have hb:w.heap[b]? = some (.map es ck):=hS.own _ (List.mem_of_getElem? hi)
  have hr:w.heap[r]? = some (.mapIter (some b) ck seen ck):=hS.own _ (List.mem_of_getElem? hm)
  have hb':=(hk.block b (Array.getElem?_eq_some_iff.1 hb).1 (fun h=>h)).trans hb
  have hr':=(hk.block r (Array.getElem?_eq_some_iff.1 hr).1 (fun h=>h)).trans hr
  have hB:gj es ck:=hS.get jb hjb
  obtain⟨s0,e,rfl,he,rfl,rfl⟩:(Ed es seen kv vv).p (dT T D) w:=hS.get jc hjc
  simp [execOp,hS.ev hX,run_entry_at (P:=P) w' r b ck s0 es ck e hr' hb' he hB.nodup]
end
end
section
open Go.RowKit
section
variable {P:Program} {W:World} {M T:Nat→Prop} {n d j t:Nat} {G:List (Nat×Value)} {D:List cx} {F:List bU} {a:Act} {w:World} {ops:Array Oper} {Q:Exit→Act→World→Prop} {rest:List Oper} {o:Oper} {v:Value} {x y:Operand} {ty tt t':TypeId} {pos:String} {af:Array Edge} {want c:Bool} {id:Nat} {l:List Oper} {z:Code}
theorem qy (hS:St W M T n G D F a w) (h:Ye P o a No w v) (k:∀ a,St W M T n ((d,v) :: G) D F a w→wpList P ops Q rest a w) (hg:o.guard=none:=by rfl) (hd:o.dst=some d:=by rfl) (hn:Nat.blt d n=true:=by rfl):wpList P ops Q (o :: rest) a w:=wy hS h hg hd hn k
theorem qg (hS:St W M T n G D F a w) (hc:c=want) (h:Ye P o a No w v) (k:∀ a,St W M T n ((d,v) :: G) D F a w→wpList P ops Q rest a w) (hg:o.guard=some (j,want):=by rfl) (hj:(ops[j]?).bind (·.dst)=some t:=by rfl) (ht:lk G t=some (.bool c):=by rfl) (hd:o.dst=some d:=by rfl) (hn:Nat.blt d n=true:=by rfl):wpList P ops Q (o :: rest) a w:=wg hS hg hj ht hc (ky hS h hd hn k)
theorem qm (hS:St W M T n G D F a w) (k:∀ a,St W M T n ((d,v) :: G) D F a w→wpList P ops Q rest a w) (hx:ev G x=some v:=by rfl) (hn:Nat.blt d n=true:=by rfl):wpList P ops Q (⟨some d,.move x,ty,pos,af,none⟩ :: rest) a w:=wy hS (D7 hS hx) rfl rfl hn k
theorem qa (hS:St W M T n G D F a w) (k:∀ a,St W M T n ((d,v) :: G) D F a w→wpList P ops Q rest a w) (hx:ev G x=some v:=by rfl) (hn:Nat.blt d n=true:=by rfl):wpList P ops Q (⟨some d,.assign x,ty,pos,af,none⟩ :: rest) a w:=wy hS (zN hS hx) rfl rfl hn k
theorem rq (h:∀ K:Act→World→Prop,(∀ a w,z.wp P Q a w→K a w)→wpList P l.toArray (Exit.then K Q) l a w):(Code.seq (Code.region id l.toArray false) z).wp P Q a w:=wp_seq_k fun K hK=>Au (h K hK)
theorem rz (h:Q .normal a w):wpList P ops Q [] a w:=wpList_nil h
end
end
section
open Go.RowKit
section
variable {α:Type} {R:aN α} {P:Program} {W:World} {M T E:Nat→Prop} {n:Nat} {G:List (Nat×Value)} {D rs:List cx} {F:List bU} {a:Act} {w:World} {K:Act→World→Prop} {xs ys:List α} {i:Int} {x:α} {cs cl:List Value}
theorem D5 {d:Option Nat} {X:Operand} {t e e':TypeId} {ty:TypeId} {pos:String} {af:Array Edge} {g:Option (Nat×Bool)} {v:Value} (hS:St W M T n G D F a w) (ht:jj P t=some e) (hx:ev G X=some v) (j:Nat) (hj:D[j]? = some (.own v e' R.size cl)) (p:Nat) (hp:F[p]? = some (am (HR R) cl (eb xs i cs))):Ye P ⟨d,.call { callee:=.builtin .len,args:=#[X],argTypes:=#[t] },ty,pos,af,g⟩ a E w (.int .i64 xs.length):=by
  have h:=D6 (R:=HR R) (xs:=eb xs i cs) (d:=d) (ty:=ty) (pos:=pos) (af:=af) (g:=g) (E:=E) hS ht hx j hj p hp
  rw [tn] at h
  exact h
theorem EB {e e' t:TypeId} {v:Value} {lo hi:Int} {ag:Bool} (hS:St W M T n G D F a w) (ht:jj P t=some e) (he:l3 P e=some (ag,R.size)) (q:Nat) (hq:D[q]? = some (.own v e' R.size cl)) (j:Nat) (hj:F[j]? = some (am (HR R) cl (eb xs i cs))) (hg:oz xs lo hi=some ys) :
    ∃ v',(∀ (T:Nat→Prop) (w:World),aA R T w v xs→aA R T w v' ys)∧(∀ {E:Nat→Prop} {d:Option Nat} {ty:TypeId} {X:Operand} {olo ohi:Option Operand} {pos:String} {af:Array Edge} {g:Option (Nat×Bool)} {k1 k2:IntKind},ev G X=some v→((∃ x,olo=some x∧ev G x=some (.int k1 lo))∨(olo=none∧lo=0))→((∃ x,ohi=some x∧ev G x=some (.int k2 hi))∨(ohi=none∧hi=xs.length))→Ye P ⟨d,.slice t X olo ohi none,ty,pos,af,g⟩ a E w v'):=by
  obtain⟨q1,q2,q3,rfl⟩:=oG hg
  obtain⟨A,c,hv,h1,h2,hS'⟩:=Fm (R:=HR R) (xs:=eb xs i cs) (lo:=lo.toNat) (hi:=hi.toNat) hS q hq j hj (by omega) (by rw [tn]; omega)
  rw [tn] at hv h1
  refine⟨_,fun T w h=>?_,fun hX hlo hhi=>Fx hS ht he q1 q2 q3 h1 hv hX hlo hhi⟩
  subst hv
  refine h.cut (by omega) (by omega) _ (fun hlt b o hA=>?_)
  rw [if_neg (by omega),hA]
  simp [jl,HR]
theorem C3 {d:Nat} {t e e' ty:TypeId} {X Y:Operand} {pos:String} {af:Array Edge} {g:Option (Nat×Bool)} {v:Value} {k:IntKind} {ag:Bool} (hS:St W M T n G D F a w) (ht:jj P t=some e) (he:l3 P e=some (ag,R.size)) (hX:ev G X=some v) (hY:ev G Y=some (.int k i)) (q:Nat) (hq:D[q]? = some (.own v e' R.size cl)) (j:Nat) (hj:F[j]? = some (am (HR R) cl (eb xs i cs))) (hg:be xs i=some x) (hn:Nat.blt d n=true)
    (K':∀ b o p,D9 v b o R.size i p→(∀ k u,cs[k]? = some u→cl[p + k]? = some u)→∀ a,St W M T n ((d,.pointer (some ⟨b,o,none⟩)) :: G) D F a w→K a w):oA P ⟨some d,.indexAddr t X Y,ty,pos,af,g⟩ a w K :=
  cR (R:=HR R) hS ht he hX hY q hq j hj (rR hg cs) hn fun b o p c hr ho hc=>by
    obtain⟨rfl,_,_⟩:=hr
    exact K' b o p ho hc
theorem mY {t ty e:TypeId} {X Y:Operand} {pos:String} {af:Array Edge} {g:Option (Nat×Bool)} {ag:Bool} {z b o k p:Nat} {v u:Value} {us:List Value} (hS:St W M T n G D F a w) (hX:ev G X=some (.pointer (some ⟨b,o + k,none⟩))) (hY:ev G Y=some u) (hu:u.cells.toList=us) (ht:l3 P t=some (ag,z)) (q:Nat) (hq:D[q]? = some (.own v e R.size cl)) (j:Nat) (hj:F[j]? = some (am (HR R) cl (eb xs i cs))) (ho:D9 v b o R.size i p) (hg:be xs i=some x)
    (hz:us.length=z) (hl:Nat.ble (k + z) cs.length=true) (hone:∀ y ∈ us,y.oneCell'=true)
    (K':∀ cl' w',Kt (fun j=>v.ownBlock=some j) w w'→St W M T n G (D.set q (.own v e R.size cl')) (am (HR R) cl' (eb xs i (k7 cs k us)) :: F) a w'→K a w'):oA P ⟨none,.store t X Y,ty,pos,af,g⟩ a w K :=
  C4 hS hX hY hu ht q hq j hj ho hg hz hl (fun y hy=>by
    have hr:(HR R).rel (dT T D) w cs (Sum.inl cs):=y6 (hS.get j hj) hg
    unfold k7 at hy
    simp only [List.mem_append] at hy
    rcases hy with (hy | hy) | hy
    · exact hr.2.2 y (List.mem_of_mem_take hy)
    · exact hone y hy
    · exact hr.2.2 y (List.mem_of_mem_drop hy)) K'
theorem St.closeHs (hS:St W M T n G D F a w) (j:Nat) (hj:F[j]? = some (am (HR R) cl (eb xs i cs))) (hg:be xs i=some x) (hr:R.rel (dT T D) w cs x):St W M T n G D (am R cl xs :: F) a w:=by
  have h:=hS.closeH j hj hr
  rw [DL hg] at h
  exact h
def vT {α:Type} (p:List α) (cs:List Value):List (List Value ⊕ α):=p.map Sum.inr ++ [Sum.inl cs]
theorem xj {p:List α} (h:i.toNat=p.length):eb (p ++ [x]) i cs=vT p cs:=by
  unfold eb vT
  rw [h,List.map_append,List.set_append_right _ _ (by simp)]
  simp
theorem Dq {v:Value} {e:TypeId} (hS:St W M T n G D F a w) (q:Nat) (hq:D[q]? = some (.own v e R.size cl)) (j:Nat) (hj:F[j]? = some (am R cl xs)):xs.length≤maxLen:=by
  obtain⟨h1,h2⟩:=hS.own _ (List.mem_of_getElem? hq)
  have h3:aB R (dT T D) w cl xs:=hS.get j hj
  obtain⟨A,m,c,rfl,h4,h5,h6,_⟩:=h1.form h2
  have:m=xs.length:=Nat.mul_right_cancel h2 (h4.symm.trans h3.1)
  omega
theorem C9 {p:List α} {x e:α} (hb:p.length≤maxLen) (h:be (p ++ [x]) (IntKind.i64.wrap (((p ++ [x]).length:Int) - 1))=some e):x=e∧(IntKind.i64.wrap (((p ++ [x]).length:Int) - 1)).toNat=p.length:=by
  obtain⟨h1,h2,h3⟩:=fg h
  have hl:(p ++ [x]).length=p.length + 1:=by simp
  unfold maxLen at hb
  have hw:IntKind.i64.wrap (((p ++ [x]).length:Int) - 1)=p.length:=by rw [IntKind.wrap_i64,hl]; omega
  rw [hw] at h3 ⊢
  refine⟨?_,by simp⟩
  simpa using h3
theorem St.closeLast {p:List α} (hS:St W M T n G D F a w) (j:Nat) (hj:F[j]? = some (am (HR R) cl (vT p cs))) (hr:R.rel (dT T D) w cs x):St W M T n G D (am R cl (p ++ [x]) :: F) a w:=by
  have h:=hS.closeH (R:=R) (xs:=p ++ [x]) (i:=(p.length:Int)) (cs:=cs) j (by rw [xj (by simp)]; exact hj) hr
  rw [show (p ++ [x]).set ((p.length:Int)).toNat x=p ++ [x] by simp] at h
  exact h
end
section
variable {α:Type} {R:aN α} {P:Program} {W:World} {M T E:Nat→Prop} {n:Nat} {G:List (Nat×Value)} {D rs:List cx} {F:List bU} {a:Act} {w:World} {K:Act→World→Prop} {xs ys zs:List α} {v0 v1 v2:Value}
end
end
section
open Go.RowKit
structure ae where
  Kind:Int
  Text:ByteArray
def ac:aN ae where
  size:=2
  rel:=fun _ _ cs x=>cs=[.int .i64 x.Kind,.string x.Text]
  len:=by rintro _ _ _ _ rfl; rfl
  one:=by rintro _ _ _ _ rfl; exact (oc rfl (oc rfl on))
  keep:=fun h _ _=>h
structure aI where
  Key:ae
  Value:ByteArray
  Changed:Int
def ad:aN aI where
  size:=4
  rel:=fun _ _ cs x=>cs=[.int .i64 x.Key.Kind,.string x.Key.Text,.string x.Value,.int .i64 x.Changed]
  len:=by rintro _ _ _ _ rfl; rfl
  one:=by rintro _ _ _ _ rfl; exact (oc rfl (oc rfl (oc rfl (oc rfl on))))
  keep:=fun h _ _=>h
structure an where
  Key:ae
  Value:ByteArray
  Reads:(List ae)
  Changed:Int
  Verified:Int
  Cost:Int
  Dirty:Bool
def aa:aN an where
  size:=8
  rel:=fun T w cs x=>∃ v1,cs=[.int .i64 x.Key.Kind,.string x.Key.Text,.string x.Value,v1,.int .i64 x.Changed,.int .i64 x.Verified,.int .i64 x.Cost,.bool x.Dirty]∧aA ac T w v1 x.Reads
  len:=by rintro _ _ _ _ ⟨v1,rfl,hv1⟩; rfl
  one:=by rintro _ _ _ _ ⟨v1,rfl,hv1⟩; exact (oc rfl (oc rfl (oc rfl (oc hv1.one (oc rfl (oc rfl (oc rfl (oc rfl on))))))))
  keep:=by rintro _ _ _ _ _ _ ⟨v1,rfl,hv1⟩ k n; exact⟨v1,rfl,hv1.keep k n⟩
structure ai where
  Revision:Int
  Inputs:(List aI)
  Records:(List an)
structure aq where
  Key:ae
  Value:ByteArray
def aj:aN aq where
  size:=3
  rel:=fun _ _ cs x=>cs=[.int .i64 x.Key.Kind,.string x.Key.Text,.string x.Value]
  len:=by rintro _ _ _ _ rfl; rfl
  one:=by rintro _ _ _ _ rfl; exact (oc rfl (oc rfl (oc rfl on)))
  keep:=fun h _ _=>h
theorem Ia:aL Tryz.prog 100=true:=by kernel_rfl
theorem Ib:aL Tryz.prog 101=true:=by kernel_rfl
theorem FI:aL Tryz.prog 102=true:=by kernel_rfl
theorem Ic:aL Tryz.prog 103=true:=by kernel_rfl
theorem FJ:aL Tryz.prog 104=true:=by kernel_rfl
theorem FK:aL Tryz.prog 105=true:=by kernel_rfl
theorem Id:aL Tryz.prog 106=true:=by kernel_rfl
theorem Ie:aL Tryz.prog 107=true:=by kernel_rfl
theorem If:aL Tryz.prog 108=true:=by kernel_rfl
theorem FL:aL Tryz.prog 111=true:=by kernel_rfl
theorem Ir:aL Tryz.prog 132=true:=by kernel_rfl
theorem Is:aL Tryz.prog 133=true:=by kernel_rfl
theorem It:aL Tryz.prog 134=true:=by kernel_rfl
theorem FQ:aL Tryz.prog 135=true:=by kernel_rfl
theorem Iu:aL Tryz.prog 136=true:=by kernel_rfl
theorem Iv:aL Tryz.prog 137=true:=by kernel_rfl
theorem Iw:aL Tryz.prog 138=true:=by kernel_rfl
theorem Ix:aL Tryz.prog 139=true:=by kernel_rfl
theorem IA:aL Tryz.prog 161=true:=by kernel_rfl
theorem IB:aL Tryz.prog 162=true:=by kernel_rfl
theorem IK:aL Tryz.prog 35=true:=by kernel_rfl
theorem Ae:aL Tryz.prog 36=true:=by kernel_rfl
theorem Es:aL Tryz.prog 43=true:=by kernel_rfl
theorem J3:aL Tryz.prog 61=true:=by kernel_rfl
theorem IP:aL Tryz.prog 62=true:=by kernel_rfl
theorem Eu:aL Tryz.prog 63=true:=by kernel_rfl
theorem J4:aL Tryz.prog 64=true:=by kernel_rfl
theorem J5:aL Tryz.prog 65=true:=by kernel_rfl
theorem J6:aL Tryz.prog 66=true:=by kernel_rfl
theorem J7:aL Tryz.prog 67=true:=by kernel_rfl
theorem Ev:aL Tryz.prog 68=true:=by kernel_rfl
theorem Gy:aL Tryz.prog 69=true:=by kernel_rfl
theorem J8:aL Tryz.prog 70=true:=by kernel_rfl
theorem J9:aL Tryz.prog 71=true:=by kernel_rfl
theorem Ka:aL Tryz.prog 72=true:=by kernel_rfl
theorem Kb:aL Tryz.prog 73=true:=by kernel_rfl
theorem Kc:aL Tryz.prog 74=true:=by kernel_rfl
theorem IQ:aL Tryz.prog 80=true:=by kernel_rfl
theorem Km:aL Tryz.prog 96=true:=by kernel_rfl
theorem Kn:aL Tryz.prog 97=true:=by kernel_rfl
theorem Ko:aL Tryz.prog 98=true:=by kernel_rfl
theorem Kp:aL Tryz.prog 99=true:=by kernel_rfl
theorem EE:xR Tryz.prog 22=some (3,1,8):=by kernel_rfl
theorem wO:xR Tryz.prog 28=some (69,4,48):=by kernel_rfl
theorem pZ:xR Tryz.prog 29=some (84,8,96):=by kernel_rfl
theorem gm:xR Tryz.prog 58=some (44,2,24):=by kernel_rfl
theorem GK:dP Tryz.prog 31 0=some 0:=by kernel_rfl
theorem GL:dP Tryz.prog 31 1=some 1:=by kernel_rfl
theorem GM:dP Tryz.prog 31 2=some 2:=by kernel_rfl
theorem GN:dP Tryz.prog 44 0=some 0:=by kernel_rfl
theorem GO:dP Tryz.prog 44 1=some 1:=by kernel_rfl
theorem GP:dP Tryz.prog 46 0=some 0:=by kernel_rfl
theorem GQ:dP Tryz.prog 46 1=some 2:=by kernel_rfl
theorem GV:dP Tryz.prog 69 0=some 0:=by kernel_rfl
theorem GW:dP Tryz.prog 69 1=some 2:=by kernel_rfl
theorem GX:dP Tryz.prog 69 2=some 3:=by kernel_rfl
theorem GY:dP Tryz.prog 84 0=some 0:=by kernel_rfl
theorem GZ:dP Tryz.prog 84 1=some 2:=by kernel_rfl
theorem G0:dP Tryz.prog 84 2=some 3:=by kernel_rfl
theorem G2:dP Tryz.prog 84 3=some 4:=by kernel_rfl
theorem G3:dP Tryz.prog 84 4=some 5:=by kernel_rfl
theorem G4:dP Tryz.prog 84 5=some 6:=by kernel_rfl
theorem G5:dP Tryz.prog 84 6=some 7:=by kernel_rfl
theorem IZ:Tryz.prog.underlying 169=some (.interface (Tryz.prog.methodsAt 169)):=by kernel_rfl
theorem mixed:Tryz.prog.follows .mixedOrders=true:=by kernel_rfl
theorem n9:Bf Tryz.prog 73=some (44,9):=by kernel_rfl
theorem Du:zS Tryz.prog 69=some [(0,2),(2,1),(3,1)]:=by kernel_rfl
theorem Ck:jj Tryz.prog 22=some 3:=by kernel_rfl
theorem sg:jj Tryz.prog 28=some 69:=by kernel_rfl
theorem n4:jj Tryz.prog 29=some 84:=by kernel_rfl
theorem sh:jj Tryz.prog 34=some 46:=by kernel_rfl
theorem jd:jj Tryz.prog 58=some 44:=by kernel_rfl
theorem KP:l3 Tryz.prog 28=some (false,1):=by kernel_rfl
theorem KQ:l3 Tryz.prog 29=some (false,1):=by kernel_rfl
theorem yu:l3 Tryz.prog 3=some (false,1):=by kernel_rfl
theorem ez:l3 Tryz.prog 31=some (true,3):=by kernel_rfl
theorem HM:l3 Tryz.prog 4=some (false,1):=by kernel_rfl
theorem dd:l3 Tryz.prog 44=some (true,2):=by kernel_rfl
theorem rK:l3 Tryz.prog 46=some (true,3):=by kernel_rfl
theorem AH:l3 Tryz.prog 58=some (false,1):=by kernel_rfl
theorem rL:l3 Tryz.prog 69=some (true,4):=by kernel_rfl
theorem k8:l3 Tryz.prog 84=some (true,8):=by kernel_rfl
theorem Fq:l3 Tryz.prog 9=some (false,1):=by kernel_rfl
theorem JH:iO Tryz.prog 3=some [.int .i64 0]:=by kernel_rfl
theorem l4:iO Tryz.prog 31=some [.int .i64 0,.slice none 0 0,.slice none 0 0]:=by kernel_rfl
theorem gh:iO Tryz.prog 44=some [.int .i64 0,.string (ByteArray.mk #[])]:=by kernel_rfl
theorem k9:iO Tryz.prog 46=some [.int .i64 0,.string (ByteArray.mk #[]),.string (ByteArray.mk #[])]:=by kernel_rfl
theorem qV:iO Tryz.prog 69=some [.int .i64 0,.string (ByteArray.mk #[]),.string (ByteArray.mk #[]),.int .i64 0]:=by kernel_rfl
theorem ft:iO Tryz.prog 84=some [.int .i64 0,.string (ByteArray.mk #[]),.string (ByteArray.mk #[]),.slice none 0 0,.int .i64 0,.int .i64 0,.int .i64 0,.bool false]:=by kernel_rfl
theorem wP {W:World} {M T E:Nat→Prop} {n:Nat} {G:List (Nat×Value)} {D:List cx} {F:List bU} {a:Act} {w:World} {d:Option Nat} {t2:TypeId} {x y:Operand} {ty:TypeId} {pos:String} {af:Array Edge} {g:Option (Nat×Bool)} {p0 q0:Int} {p1 q1:ByteArray} (hS:St W M T n G D F a w) (hx:ev G x=some (.agg #[.int .i64 p0,.string p1])) (hy:ev G y=some (.agg #[.int .i64 q0,.string q1])):Ye Tryz.prog ⟨d,.binOp .eql 44 x y t2,ty,pos,af,g⟩ a E w (.bool (p0 == q0 && p1.toList == q1.toList)) :=
  Ye.of fun w=>by
    have h1:=hS.ev hx
    have h2:=hS.ev hy
    clear hS hx hy
    simp only [execOp,h1,h2,eqGuard]
    simp [go_sem]
    (repeat' split) <;> simp_all
theorem vJ {W:World} {M T E:Nat→Prop} {n:Nat} {G:List (Nat×Value)} {D:List cx} {F:List bU} {a:Act} {w:World} {d:Option Nat} {t2:TypeId} {x y:Operand} {ty:TypeId} {pos:String} {af:Array Edge} {g:Option (Nat×Bool)} {p0 q0:Int} {p1 q1:ByteArray} (hS:St W M T n G D F a w) (hx:ev G x=some (.agg #[.int .i64 p0,.string p1])) (hy:ev G y=some (.agg #[.int .i64 q0,.string q1])):Ye Tryz.prog ⟨d,.binOp .neq 44 x y t2,ty,pos,af,g⟩ a E w (.bool (!(p0 == q0 && p1.toList == q1.toList))) :=
  Ye.of fun w=>by
    have h1:=hS.ev hx
    have h2:=hS.ev hy
    clear hS hx hy
    simp only [execOp,h1,h2,eqGuard]
    simp [go_sem]
    (repeat' split) <;> simp_all
def aC (a b:ae):Bool:=a.Kind == b.Kind && a.Text.toList == b.Text.toList
theorem cc:tU Tryz.prog 44 ac true aC where
  check:=by
    rintro b T w0 w c x rfl
    show (Instr.checkKey b (Nat.succ (Nat.succ 9998)) 44 _).run Tryz.prog w=_
    generalize 9998=N
    simp [Instr.checkKey,aX,go_sem]
  eq:=by
    rintro T T2 w0 w1 w c d x y rfl rfl
    unfold aC Op.equal
    show (Op.equalIn (Nat.succ (Nat.succ 9998)) 44 _ _).run Tryz.prog w=_
    generalize 9998=N
    simp [Op.equalIn,aX,beq_toListBytes,go_sem]
    (try (repeat' split) <;> simp_all)
  now:=⟨_,Tryz.underlying44,by rintro T T2 w0 w1 c d x y rfl rfl; first | (exact .inl rfl) | (right; unfold aC; simp [aX,Instr.sameNow,beq_toListBytes])⟩
  bits:=by
    rintro T T2 w0 w1 c d x y rfl rfl h
    unfold aC at h
    show Instr.sameBits (Nat.succ (Nat.succ 9998)) _ _=_
    generalize 9998=N
    simp [aX,Instr.sameBits,beq_toListBytes] at h ⊢
    simp [h]
end
section
open Go.RowKit
structure aP where
  L:(List Int)
  At:Int
structure cF where
  Cell:Bool
  Pick:Bool
  N:Int
  Else:Int
def dN:aN cF where
  size:=4
  rel:=fun _ _ cs x=>cs=[.bool x.Cell,.bool x.Pick,.int .i64 x.N,.int .i64 x.Else]
  len:=by rintro _ _ _ _ rfl; rfl
  one:=by rintro _ _ _ _ rfl; exact (oc rfl (oc rfl (oc rfl (oc rfl on))))
  keep:=fun h _ _=>h
structure aK where
  Ring:Bool
  Asks:(List cF)
  Final:Int
  C:Int
def ay:aN aK where
  size:=4
  rel:=fun T w cs x=>∃ v1,cs=[.bool x.Ring,v1,.int .i64 x.Final,.int .i64 x.C]∧aA dN T w v1 x.Asks
  len:=by rintro _ _ _ _ ⟨v1,rfl,hv1⟩; rfl
  one:=by rintro _ _ _ _ ⟨v1,rfl,hv1⟩; exact (oc rfl (oc hv1.one (oc rfl (oc rfl on))))
  keep:=by rintro _ _ _ _ _ _ ⟨v1,rfl,hv1⟩ k n; exact⟨v1,rfl,hv1.keep k n⟩
theorem IC:aL Tryz.prog 17=true:=by kernel_rfl
theorem JR:aL Tryz.prog 18=true:=by kernel_rfl
theorem wK:aL Tryz.prog 19=true:=by kernel_rfl
theorem JT:aL Tryz.prog 29=true:=by kernel_rfl
theorem lA:aL Tryz.prog 34=true:=by kernel_rfl
theorem JW:aL Tryz.prog 39=true:=by kernel_rfl
theorem IN:aL Tryz.prog 53=true:=by kernel_rfl
theorem JY:aL Tryz.prog 54=true:=by kernel_rfl
theorem Kd:aL Tryz.prog 75=true:=by kernel_rfl
theorem EF:xR Tryz.prog 27=some (89,4,48):=by kernel_rfl
theorem tj:xR Tryz.prog 34=some (46,3,40):=by kernel_rfl
theorem uQ:xR Tryz.prog 77=some (9,1,16):=by kernel_rfl
theorem GI:xR Tryz.prog 87=some (93,4,24):=by kernel_rfl
theorem GT:dP Tryz.prog 64 0=some 0:=by kernel_rfl
theorem GU:dP Tryz.prog 64 1=some 1:=by kernel_rfl
theorem G6:dP Tryz.prog 89 0=some 0:=by kernel_rfl
theorem G7:dP Tryz.prog 89 1=some 1:=by kernel_rfl
theorem G8:dP Tryz.prog 89 2=some 2:=by kernel_rfl
theorem G9:dP Tryz.prog 89 3=some 3:=by kernel_rfl
theorem Hd:dP Tryz.prog 93 0=some 0:=by kernel_rfl
theorem He:dP Tryz.prog 93 1=some 1:=by kernel_rfl
theorem Hf:dP Tryz.prog 93 2=some 2:=by kernel_rfl
theorem Hh:dP Tryz.prog 93 3=some 3:=by kernel_rfl
theorem As:zS Tryz.prog 44=some [(0,1),(1,1)]:=by kernel_rfl
theorem vX:zS Tryz.prog 46=some [(0,2),(2,1)]:=by kernel_rfl
theorem KB:zS Tryz.prog 64=some [(0,1),(1,1)]:=by kernel_rfl
theorem Ff:zS Tryz.prog 89=some [(0,1),(1,1),(2,1),(3,1)]:=by kernel_rfl
theorem Jc:zS Tryz.prog 93=some [(0,1),(1,1),(2,1),(3,1)]:=by kernel_rfl
theorem uq:jj Tryz.prog 27=some 89:=by kernel_rfl
theorem DP:jj Tryz.prog 77=some 9:=by kernel_rfl
theorem HK:jj Tryz.prog 87=some 93:=by kernel_rfl
theorem KN:l3 Tryz.prog 22=some (false,1):=by kernel_rfl
theorem KT:l3 Tryz.prog 87=some (false,1):=by kernel_rfl
theorem tO:l3 Tryz.prog 89=some (true,4):=by kernel_rfl
theorem HN:l3 Tryz.prog 93=some (true,4):=by kernel_rfl
theorem KV:iO Tryz.prog 64=some [.slice none 0 0,.int .i64 0]:=by kernel_rfl
theorem uX:iO Tryz.prog 89=some [.bool false,.slice none 0 0,.int .i64 0,.int .i64 0]:=by kernel_rfl
theorem H0:iO Tryz.prog 9=some [.string (ByteArray.mk #[])]:=by kernel_rfl
theorem AO:iO Tryz.prog 93=some [.bool false,.bool false,.int .i64 0,.int .i64 0]:=by kernel_rfl
theorem IX {W:World} {M T E:Nat→Prop} {n:Nat} {G:List (Nat×Value)} {D:List cx} {F:List bU} {a:Act} {w:World} {d:Option Nat} {t2:TypeId} {x y:Operand} {ty:TypeId} {pos:String} {af:Array Edge} {g:Option (Nat×Bool)} {p0 q0:Int} {p1 q1:ByteArray} {p2 q2:ByteArray} {p3 q3:Int} (hS:St W M T n G D F a w) (hx:ev G x=some (.agg #[.int .i64 p0,.string p1,.string p2,.int .i64 p3])) (hy:ev G y=some (.agg #[.int .i64 q0,.string q1,.string q2,.int .i64 q3])):Ye Tryz.prog ⟨d,.binOp .neq 69 x y t2,ty,pos,af,g⟩ a E w (.bool (!(p0 == q0 && p1.toList == q1.toList && p2.toList == q2.toList && p3 == q3))) :=
  Ye.of fun w=>by
    have h1:=hS.ev hx
    have h2:=hS.ev hy
    clear hS hx hy
    simp only [execOp,h1,h2,eqGuard]
    simp [go_sem]
    (repeat' split) <;> simp_all
end
section
open Go.RowKit
theorem FM:aL Tryz.prog 115=true:=by kernel_rfl
theorem AY:aL Tryz.prog 117=true:=by kernel_rfl
theorem Im:aL Tryz.prog 126=true:=by kernel_rfl
theorem Ep:aL Tryz.prog 15=true:=by kernel_rfl
theorem Gv:aL Tryz.prog 22=true:=by kernel_rfl
theorem IM:aL Tryz.prog 42=true:=by kernel_rfl
theorem CL:aL Tryz.prog 46=true:=by kernel_rfl
theorem vq:aL Tryz.prog 47=true:=by kernel_rfl
theorem BI:aL Tryz.prog 48=true:=by kernel_rfl
theorem JX:aL Tryz.prog 49=true:=by kernel_rfl
theorem vr:aL Tryz.prog 52=true:=by kernel_rfl
theorem Ew:aL Tryz.prog 79=true:=by kernel_rfl
theorem Kf:aL Tryz.prog 81=true:=by kernel_rfl
theorem Kg:aL Tryz.prog 83=true:=by kernel_rfl
theorem tW:aL Tryz.prog 90=true:=by kernel_rfl
end
section
open Go.RowKit
structure bf where
  Key:ae
  Running:Bool
  At:Int
  Reads:(List ae)
  Answers:(List ByteArray)
def ar:aN bf where
  size:=6
  rel:=fun T w cs x=>∃ v1 v2,cs=[.int .i64 x.Key.Kind,.string x.Key.Text,.bool x.Running,.int .i64 x.At,v1,v2]∧aA ac T w v1 x.Reads∧aA aN.str T w v2 x.Answers
  len:=by rintro _ _ _ _ ⟨v1,v2,rfl,hv1,hv2⟩; rfl
  one:=by rintro _ _ _ _ ⟨v1,v2,rfl,hv1,hv2⟩; exact (oc rfl (oc rfl (oc rfl (oc rfl (oc hv1.one (oc hv2.one on))))))
  keep:=by rintro _ _ _ _ _ _ ⟨v1,v2,rfl,hv1,hv2⟩ k n; exact⟨v1,v2,rfl,hv1.keep k n,hv2.keep k n⟩
structure cG where
  Rules:(List aK)
  Base:ai
  Goals:(List ae)
  Stack:(List bf)
  Ran:(List ae)
structure cw where
  Member:ae
  Read:ae
def eO:aN cw where
  size:=4
  rel:=fun _ _ cs x=>cs=[.int .i64 x.Member.Kind,.string x.Member.Text,.int .i64 x.Read.Kind,.string x.Read.Text]
  len:=by rintro _ _ _ _ rfl; rfl
  one:=by rintro _ _ _ _ rfl; exact (oc rfl (oc rfl (oc rfl (oc rfl on))))
  keep:=fun h _ _=>h
theorem Ii:aL Tryz.prog 118=true:=by kernel_rfl
theorem FN:aL Tryz.prog 119=true:=by kernel_rfl
theorem Ij:aL Tryz.prog 120=true:=by kernel_rfl
theorem FO:aL Tryz.prog 121=true:=by kernel_rfl
theorem xf:aL Tryz.prog 122=true:=by kernel_rfl
theorem kD:aL Tryz.prog 129=true:=by kernel_rfl
theorem FR:aL Tryz.prog 148=true:=by kernel_rfl
theorem FY:aL Tryz.prog 180=true:=by kernel_rfl
theorem FZ:aL Tryz.prog 181=true:=by kernel_rfl
theorem IR:aL Tryz.prog 82=true:=by kernel_rfl
theorem Gz:aL Tryz.prog 84=true:=by kernel_rfl
theorem GA:aL Tryz.prog 85=true:=by kernel_rfl
theorem Kh:aL Tryz.prog 86=true:=by kernel_rfl
theorem GC:aL Tryz.prog 94=true:=by kernel_rfl
theorem F5:xR Tryz.prog 184=some (198,4,48):=by kernel_rfl
theorem xQ:xR Tryz.prog 95=some (131,6,88):=by kernel_rfl
theorem xU:dP Tryz.prog 131 3=some 4:=by kernel_rfl
theorem xV:dP Tryz.prog 131 4=some 5:=by kernel_rfl
theorem Hi:dP Tryz.prog 97 0=some 0:=by kernel_rfl
theorem Hj:dP Tryz.prog 97 1=some 1:=by kernel_rfl
theorem Hk:dP Tryz.prog 97 2=some 4:=by kernel_rfl
theorem Hl:dP Tryz.prog 97 3=some 5:=by kernel_rfl
theorem Hm:dP Tryz.prog 97 4=some 6:=by kernel_rfl
theorem sw:Bf Tryz.prog 136=some (44,4):=by kernel_rfl
theorem Ja:zS Tryz.prog 198=some [(0,2),(2,2)]:=by kernel_rfl
theorem Jb:zS Tryz.prog 84=some [(0,2),(2,1),(3,1),(4,1),(5,1),(6,1),(7,1)]:=by kernel_rfl
theorem HF:zS Tryz.prog 97=some [(0,1),(1,3),(4,1),(5,1),(6,1)]:=by kernel_rfl
theorem wv:jj Tryz.prog 95=some 131:=by kernel_rfl
theorem rJ:l3 Tryz.prog 131=some (true,6):=by kernel_rfl
theorem KO:l3 Tryz.prog 27=some (false,1):=by kernel_rfl
theorem AI:l3 Tryz.prog 77=some (false,1):=by kernel_rfl
theorem Ju:l3 Tryz.prog 95=some (false,1):=by kernel_rfl
theorem uw:l3 Tryz.prog 97=some (true,7):=by kernel_rfl
theorem qo:iO Tryz.prog 131=some [.int .i64 0,.string (ByteArray.mk #[]),.bool false,.int .i64 0,.slice none 0 0,.slice none 0 0]:=by kernel_rfl
theorem Bw:iO Tryz.prog 198=some [.int .i64 0,.string (ByteArray.mk #[]),.int .i64 0,.string (ByteArray.mk #[])]:=by kernel_rfl
theorem wH:iO Tryz.prog 97=some [.slice none 0 0,.int .i64 0,.slice none 0 0,.slice none 0 0,.slice none 0 0,.slice none 0 0,.slice none 0 0]:=by kernel_rfl
theorem H1:Gi Tryz.prog 4=some (.bool false):=by kernel_rfl
end
section
open Go.RowKit
class qX (P:Program) (t:TypeId) (b:outParam Bool) (z:outParam Nat):Prop where
  h:l3 P t=some (b,z)
class nD (P:Program) (s:TypeId) (f:Nat) (k:outParam Nat):Prop where
  h:dP P s f=some k
class AS (P:Program) (t:TypeId) (e:outParam TypeId):Prop where
  h:jj P t=some e
class FC (P:Program) (t:TypeId) (u:outParam TypeDesc):Prop where
  h:P.underlying t=some u
theorem fD {D:List bU} {r:bU} (h:∃ i:Nat,D[i]? = some r:=by first | exact⟨0,rfl⟩ | exact⟨1,rfl⟩ | exact⟨2,rfl⟩ | exact⟨3,rfl⟩ | exact⟨4,rfl⟩ | exact⟨5,rfl⟩ | exact⟨6,rfl⟩ | exact⟨7,rfl⟩ | exact⟨8,rfl⟩ | exact⟨9,rfl⟩ | exact⟨10,rfl⟩ | exact⟨11,rfl⟩ | exact⟨12,rfl⟩ | exact⟨13,rfl⟩ | exact⟨14,rfl⟩ | exact⟨15,rfl⟩ | exact⟨16,rfl⟩ | exact⟨17,rfl⟩ | exact⟨18,rfl⟩ | exact⟨19,rfl⟩ | exact⟨20,rfl⟩ | exact⟨21,rfl⟩ | exact⟨22,rfl⟩ | exact⟨23,rfl⟩ | exact⟨24,rfl⟩ | exact⟨25,rfl⟩ | exact⟨26,rfl⟩ | exact⟨27,rfl⟩ | exact⟨28,rfl⟩ | exact⟨29,rfl⟩):∃ i:Nat,D[i]? = some r:=h
theorem fR {D:List cx} {r:cx} (h:∃ i:Nat,D[i]? = some r:=by first | exact⟨0,rfl⟩ | exact⟨1,rfl⟩ | exact⟨2,rfl⟩ | exact⟨3,rfl⟩ | exact⟨4,rfl⟩ | exact⟨5,rfl⟩ | exact⟨6,rfl⟩ | exact⟨7,rfl⟩ | exact⟨8,rfl⟩ | exact⟨9,rfl⟩ | exact⟨10,rfl⟩ | exact⟨11,rfl⟩ | exact⟨12,rfl⟩ | exact⟨13,rfl⟩ | exact⟨14,rfl⟩ | exact⟨15,rfl⟩ | exact⟨16,rfl⟩ | exact⟨17,rfl⟩ | exact⟨18,rfl⟩ | exact⟨19,rfl⟩ | exact⟨20,rfl⟩ | exact⟨21,rfl⟩ | exact⟨22,rfl⟩ | exact⟨23,rfl⟩ | exact⟨24,rfl⟩ | exact⟨25,rfl⟩ | exact⟨26,rfl⟩ | exact⟨27,rfl⟩ | exact⟨28,rfl⟩ | exact⟨29,rfl⟩):∃ i:Nat,D[i]? = some r:=h
theorem s8 (i:Nat) {D:List cx} {r:Option cx} (h:D[i]? = r):D[i]? = r:=h
theorem fI {D:List cx} {r:cx} {i:Nat} (h:D[i]? = some r:=by first | (refine s8 0 ?_; exact rfl) | (refine s8 1 ?_; exact rfl) | (refine s8 2 ?_; exact rfl) | (refine s8 3 ?_; exact rfl) | (refine s8 4 ?_; exact rfl) | (refine s8 5 ?_; exact rfl) | (refine s8 6 ?_; exact rfl) | (refine s8 7 ?_; exact rfl) | (refine s8 8 ?_; exact rfl) | (refine s8 9 ?_; exact rfl) | (refine s8 10 ?_; exact rfl) | (refine s8 11 ?_; exact rfl) | (refine s8 12 ?_; exact rfl) | (refine s8 13 ?_; exact rfl) | (refine s8 14 ?_; exact rfl) | (refine s8 15 ?_; exact rfl) | (refine s8 16 ?_; exact rfl) | (refine s8 17 ?_; exact rfl) | (refine s8 18 ?_; exact rfl) | (refine s8 19 ?_; exact rfl) | (refine s8 20 ?_; exact rfl) | (refine s8 21 ?_; exact rfl) | (refine s8 22 ?_; exact rfl) | (refine s8 23 ?_; exact rfl) | (refine s8 24 ?_; exact rfl) | (refine s8 25 ?_; exact rfl) | (refine s8 26 ?_; exact rfl) | (refine s8 27 ?_; exact rfl) | (refine s8 28 ?_; exact rfl) | (refine s8 29 ?_; exact rfl)):D[i]? = some r:=h
theorem kn {c b:Bool} (h:c=b:=by first | assumption | exact rfl | exact nt (by assumption) | exact nf (by assumption)):c=b:=h
def Tk (Z o:Nat) (cs us:List Value):Prop:=(cs.drop o).take Z=us∧us.length=Z
def Cl (Z:Nat) (v:Value) (us:List Value):Prop:=v.cells.toList=us∧us.length=Z
theorem L8 {o:Nat} {cs:List Value} {v0:Value} (h:(cs.drop o).take 1=[v0]):Tk 1 o cs [v0]:=⟨h,rfl⟩
theorem K4 {v v0:Value} (h:v.cells.toList=[v0]):Cl 1 v [v0]:=⟨h,rfl⟩
theorem L9 {o:Nat} {cs:List Value} {v0 v1:Value} (h:(cs.drop o).take 2=[v0,v1]):Tk 2 o cs [v0,v1]:=⟨h,rfl⟩
theorem sJ {v v0 v1:Value} (h:v.cells.toList=[v0,v1]):Cl 2 v [v0,v1]:=⟨h,rfl⟩
theorem Ma {o:Nat} {cs:List Value} {v0 v1 v2:Value} (h:(cs.drop o).take 3=[v0,v1,v2]):Tk 3 o cs [v0,v1,v2]:=⟨h,rfl⟩
theorem oh {v v0 v1 v2:Value} (h:v.cells.toList=[v0,v1,v2]):Cl 3 v [v0,v1,v2]:=⟨h,rfl⟩
theorem Mb {o:Nat} {cs:List Value} {v0 v1 v2 v3:Value} (h:(cs.drop o).take 4=[v0,v1,v2,v3]):Tk 4 o cs [v0,v1,v2,v3]:=⟨h,rfl⟩
theorem qT {v v0 v1 v2 v3:Value} (h:v.cells.toList=[v0,v1,v2,v3]):Cl 4 v [v0,v1,v2,v3]:=⟨h,rfl⟩
theorem Mc {o:Nat} {cs:List Value} {v0 v1 v2 v3 v4:Value} (h:(cs.drop o).take 5=[v0,v1,v2,v3,v4]):Tk 5 o cs [v0,v1,v2,v3,v4]:=⟨h,rfl⟩
theorem tX {v v0 v1 v2 v3 v4:Value} (h:v.cells.toList=[v0,v1,v2,v3,v4]):Cl 5 v [v0,v1,v2,v3,v4]:=⟨h,rfl⟩
theorem Md {o:Nat} {cs:List Value} {v0 v1 v2 v3 v4 v5:Value} (h:(cs.drop o).take 6=[v0,v1,v2,v3,v4,v5]):Tk 6 o cs [v0,v1,v2,v3,v4,v5]:=⟨h,rfl⟩
theorem yF {v v0 v1 v2 v3 v4 v5:Value} (h:v.cells.toList=[v0,v1,v2,v3,v4,v5]):Cl 6 v [v0,v1,v2,v3,v4,v5]:=⟨h,rfl⟩
theorem Me {o:Nat} {cs:List Value} {v0 v1 v2 v3 v4 v5 v6:Value} (h:(cs.drop o).take 7=[v0,v1,v2,v3,v4,v5,v6]):Tk 7 o cs [v0,v1,v2,v3,v4,v5,v6]:=⟨h,rfl⟩
theorem vt {v v0 v1 v2 v3 v4 v5 v6:Value} (h:v.cells.toList=[v0,v1,v2,v3,v4,v5,v6]):Cl 7 v [v0,v1,v2,v3,v4,v5,v6]:=⟨h,rfl⟩
theorem Mf {o:Nat} {cs:List Value} {v0 v1 v2 v3 v4 v5 v6 v7:Value} (h:(cs.drop o).take 8=[v0,v1,v2,v3,v4,v5,v6,v7]):Tk 8 o cs [v0,v1,v2,v3,v4,v5,v6,v7]:=⟨h,rfl⟩
theorem tT {v v0 v1 v2 v3 v4 v5 v6 v7:Value} (h:v.cells.toList=[v0,v1,v2,v3,v4,v5,v6,v7]):Cl 8 v [v0,v1,v2,v3,v4,v5,v6,v7]:=⟨h,rfl⟩
theorem Mg {o:Nat} {cs:List Value} {v0 v1 v2 v3 v4 v5 v6 v7 v8:Value} (h:(cs.drop o).take 9=[v0,v1,v2,v3,v4,v5,v6,v7,v8]):Tk 9 o cs [v0,v1,v2,v3,v4,v5,v6,v7,v8]:=⟨h,rfl⟩
theorem GE {v v0 v1 v2 v3 v4 v5 v6 v7 v8:Value} (h:v.cells.toList=[v0,v1,v2,v3,v4,v5,v6,v7,v8]):Cl 9 v [v0,v1,v2,v3,v4,v5,v6,v7,v8]:=⟨h,rfl⟩
theorem KK {o:Nat} {cs:List Value} {v0 v1 v2 v3 v4 v5 v6 v7 v8 v9:Value} (h:(cs.drop o).take 10=[v0,v1,v2,v3,v4,v5,v6,v7,v8,v9]):Tk 10 o cs [v0,v1,v2,v3,v4,v5,v6,v7,v8,v9]:=⟨h,rfl⟩
theorem oL {v v0 v1 v2 v3 v4 v5 v6 v7 v8 v9:Value} (h:v.cells.toList=[v0,v1,v2,v3,v4,v5,v6,v7,v8,v9]):Cl 10 v [v0,v1,v2,v3,v4,v5,v6,v7,v8,v9]:=⟨h,rfl⟩
theorem KL {o:Nat} {cs:List Value} {v0 v1 v2 v3 v4 v5 v6 v7 v8 v9 v10:Value} (h:(cs.drop o).take 11=[v0,v1,v2,v3,v4,v5,v6,v7,v8,v9,v10]):Tk 11 o cs [v0,v1,v2,v3,v4,v5,v6,v7,v8,v9,v10]:=⟨h,rfl⟩
theorem Kq {v v0 v1 v2 v3 v4 v5 v6 v7 v8 v9 v10:Value} (h:v.cells.toList=[v0,v1,v2,v3,v4,v5,v6,v7,v8,v9,v10]):Cl 11 v [v0,v1,v2,v3,v4,v5,v6,v7,v8,v9,v10]:=⟨h,rfl⟩
theorem KM {o:Nat} {cs:List Value} {v0 v1 v2 v3 v4 v5 v6 v7 v8 v9 v10 v11:Value} (h:(cs.drop o).take 12=[v0,v1,v2,v3,v4,v5,v6,v7,v8,v9,v10,v11]):Tk 12 o cs [v0,v1,v2,v3,v4,v5,v6,v7,v8,v9,v10,v11]:=⟨h,rfl⟩
theorem qs {v v0 v1 v2 v3 v4 v5 v6 v7 v8 v9 v10 v11:Value} (h:v.cells.toList=[v0,v1,v2,v3,v4,v5,v6,v7,v8,v9,v10,v11]):Cl 12 v [v0,v1,v2,v3,v4,v5,v6,v7,v8,v9,v10,v11]:=⟨h,rfl⟩
theorem Le {Z o:Nat} {cs us:List Value} (h:Tk Z o cs us:=by first | ((with_reducible apply L8); exact rfl) | ((with_reducible apply L9); exact rfl) | ((with_reducible apply Ma); exact rfl) | ((with_reducible apply Mb); exact rfl) | ((with_reducible apply Mc); exact rfl) | ((with_reducible apply Md); exact rfl) | ((with_reducible apply Me); exact rfl) | ((with_reducible apply Mf); exact rfl) | ((with_reducible apply Mg); exact rfl) | ((with_reducible apply KK); exact rfl) | ((with_reducible apply KL); exact rfl) | ((with_reducible apply KM); exact rfl)):Tk Z o cs us:=h
theorem Kx {W:World} {M T:Nat→Prop} {n:Nat} {G:List (Nat×Value)} {D:List cx} {F:List bU} {v:Value} {a:Act} {w:World} {e:TypeId} {sz:Nat} {cl:List Value} (hS:St W M T n G D F a w) (h:∃ i:Nat,D[i]? = some (.own v e sz cl)):v.oneCell'=true:=gy (hS.own _ (List.mem_of_getElem? h.choose_spec)).1
theorem Ky {W:World} {M T:Nat→Prop} {n:Nat} {G:List (Nat×Value)} {D:List cx} {F:List bU} {v:Value} {a:Act} {w:World} {α:Type} {R:aN α} {xs:List α} (hS:St W M T n G D F a w) (h:∃ i:Nat,F[i]? = some (aJ R v xs)):v.oneCell'=true:=aA.one (hS.get h.choose h.choose_spec:aA R _ _ _ _)
theorem I7 {v:Value} (h:v.oneCell'=true:=by first | exact rfl | exact Kx hS fR | exact Ky hS fD):v.oneCell'=true:=h
theorem HZ {Z:Nat} {v:Value} {us:List Value} (h:Cl Z v us:=by first | ((with_reducible apply K4); exact rfl) | ((with_reducible apply sJ); exact rfl) | ((with_reducible apply oh); exact rfl) | ((with_reducible apply qT); exact rfl) | ((with_reducible apply tX); exact rfl) | ((with_reducible apply yF); exact rfl) | ((with_reducible apply vt); exact rfl) | ((with_reducible apply tT); exact rfl) | ((with_reducible apply GE); exact rfl) | ((with_reducible apply oL); exact rfl) | ((with_reducible apply Kq); exact rfl) | ((with_reducible apply qs); exact rfl) | ((with_reducible apply K4); exact ik I7)):Cl Z v us:=h
theorem I6 {us:List Value} (h:∀ u ∈ us,u.oneCell'=true:=by repeat (first | exact on | refine oc I7 ?_)):∀ u ∈ us,u.oneCell'=true:=h
def SQ (P:Program) (z:Code) (Q:Exit→Act→World→Prop):Exit→Act→World→Prop:=Exit.then (z.wp P Q) Q
section
variable {P:Program} {W:World} {M T:Nat→Prop} {n:Nat} {F:List bU}
def Yv (P:Program) (W:World) (M T:Nat→Prop) (n:Nat) (G:List (Nat×Value)) (D:List cx) (F:List bU) (E:Nat→Prop) (op:Op) (v:Value):Prop :=
  ∀ a w d ty pos af g,St W M T n G D F a w→Ye P ⟨d,op,ty,pos,af,g⟩ a E w v
section
variable {G:List (Nat×Value)} {D:List cx} {E:Nat→Prop} {x y z:Operand} {v:Value} {t t' s:TypeId}
theorem Yv.mv (hx:ev G x=some v):Yv P W M T n G D F E (.move x) v:=fun _ _ _ _ _ _ _ hS=>D7 hS hx
theorem Yv.as (hx:ev G x=some v):Yv P W M T n G D F E (.assign x) v:=fun _ _ _ _ _ _ _ hS=>zN hS hx
theorem Yv.bi {op:BinOp} {k:IntKind} {p q:Int} (hx:ev G x=some (.int k p)) (hy:ev G y=some (.int k q)) (hv:Ho op k p q=some v):Yv P W M T n G D F E (.binOp op t x y t') v:=fun _ _ _ _ _ _ _ hS=>zP hS hx hy hv
theorem Yv.bs {op:BinOp} {p q:ByteArray} (hx:ev G x=some (.string p)) (hy:ev G y=some (.string q)) (hv:HJ op p q=some v):Yv P W M T n G D F E (.binOp op t x y t') v:=fun _ _ _ _ _ _ _ hS=>JB hS hx hy hv
theorem Yv.no {b:Bool} (hx:ev G x=some (.bool b)):Yv P W M T n G D F E (.unOp .not t x) (.bool !b):=fun _ _ _ _ _ _ _ hS=>Jy hS hx
theorem Yv.ng {k:IntKind} {p:Int} (hx:ev G x=some (.int k p)):Yv P W M T n G D F E (.unOp .neg t x) (.int k (k.wrap (0 - p))):=fun _ _ _ _ _ _ _ hS=>Jw hS hx
theorem Yv.ex {i:Nat} {vs:Array Value} (hx:ev G x=some (.tuple vs)) (hv:vs[i]? = some v):Yv P W M T n G D F E (.extract x i) v:=fun _ _ _ _ _ _ _ hS=>KU hS hx hv
theorem Yv.nl {p:Addr} (hx:ev G x=some (.pointer (some p))):Yv P W M T n G D F E (.nilCheck x) (.pointer (some p)):=fun _ _ _ _ _ _ _ hS=>Jx hS hx
theorem Yv.fl {f k b o:Nat} [c:nD P s f k] (hx:ev G x=some (.pointer (some ⟨b,o,none⟩))):Yv P W M T n G D F E (.fieldAddr s x f) (.pointer (some ⟨b,o + k,none⟩)):=fun _ _ _ _ _ _ _ hS=>zO hS hx c.h
theorem Yv.pt {b:Bool} (hz:ev G z=some (.bool b)) (hb:b=true) (hx:ev G x=some v):Yv P W M T n G D F E (.pick z x y) v:=fun _ _ _ _ _ _ _ hS=>Fw hS hz hb hx
theorem Yv.pf {b:Bool} (hz:ev G z=some (.bool b)) (hb:b=false) (hy:ev G y=some v):Yv P W M T n G D F E (.pick z x y) v:=fun _ _ _ _ _ _ _ hS=>Fv hS hz hb hy
theorem Yv.cv {k k' ks:IntKind} {p:Int} [hs:FC P s (.int ks)] [ht:FC P t (.int k')] (hx:ev G x=some (.int k p)):Yv P W M T n G D F E (.convert s t x) (.int k' (k'.wrap p)):=fun _ _ _ _ _ _ _ hS=>HS hS hx hs.h ht.h
theorem Yv.ls {p:ByteArray} [ht:FC P t .string] (hx:ev G x=some (.string p)):Yv P W M T n G D F E (.call { callee:=.builtin .len,args:=#[x],argTypes:=#[t] }) (.int .i64 p.size):=fun _ _ _ _ _ _ _ hS=>HU hS ht.h hx
theorem Yv.ll {e:TypeId} {α:Type} {R:aN α} {xs:List α} [ht:AS P t e] (hx:ev G x=some v) (hF:∃ i:Nat,F[i]? = some (aJ R v xs)):Yv P W M T n G D F E (.call { callee:=.builtin .len,args:=#[x],argTypes:=#[t] }) (.int .i64 xs.length):=fun _ _ _ _ _ _ _ hS=>Gg hS ht.h hx hF.choose hF.choose_spec
theorem Yv.lo {e e':TypeId} {cl:List Value} {α:Type} {R:aN α} {xs:List α} [ht:AS P t e] (hx:ev G x=some v) (hD:∃ j:Nat,D[j]? = some (.own v e' R.size cl)) (hF:∃ i:Nat,F[i]? = some (am R cl xs)):Yv P W M T n G D F E (.call { callee:=.builtin .len,args:=#[x],argTypes:=#[t] }) (.int .i64 xs.length):=fun _ _ _ _ _ _ _ hS=>D6 hS ht.h hx hD.choose hD.choose_spec hF.choose hF.choose_spec
theorem Yv.la {Z b o:Nat} {cs us:List Value} {bt:TypeId} [c:qX P t true Z] (hx:ev G x=some (.pointer (some ⟨b,o,none⟩))) (hD:∃ i:Nat,D[i]? = some (.box b cs bt)) (hE:¬ E b) (hu:Tk Z o cs us):Yv P W M T n G D F E (.load t x) (.agg us.toArray):=fun _ _ _ _ _ _ _ hS=>dH hS hx c.h hD.choose hD.choose_spec hE hu.1 hu.2 (fun h=>by cases h)
theorem Yv.l1 {b o:Nat} {cs:List Value} {bt:TypeId} [c:qX P t false 1] (hx:ev G x=some (.pointer (some ⟨b,o,none⟩))) (hD:∃ i:Nat,D[i]? = some (.box b cs bt)) (hE:¬ E b) (hu:(cs.drop o).take 1=[v]):Yv P W M T n G D F E (.load t x) v:=fun _ _ _ _ _ _ _ hS=>dH (us:=[v]) hS hx c.h hD.choose hD.choose_spec hE hu rfl (fun _=>rfl)
theorem Yv.ca {Z b o k p:Nat} {cs us:List Value} [c:qX P t true Z] (hx:ev G x=some (.pointer (some ⟨b,p,none⟩))) (hF:∃ i:Nat,F[i]? = some (l6 b o cs)) (hp:o + k=p) (hE:∀ a w,St W M T n G D F a w→∀ j,E j→dT T D j∨w.heap.size≤j) (hu:Tk Z k cs us):Yv P W M T n G D F E (.load t x) (.agg us.toArray):=fun a w _ _ _ _ _ hS=>by
  subst hp
  exact tS hS c.h hF.choose hF.choose_spec hx (hE a w hS) hu.1 hu.2 (fun h=>by cases h)
theorem Yv.c1 {b o k p:Nat} {cs:List Value} [c:qX P t false 1] (hx:ev G x=some (.pointer (some ⟨b,p,none⟩))) (hF:∃ i:Nat,F[i]? = some (l6 b o cs)) (hp:o + k=p) (hE:∀ a w,St W M T n G D F a w→∀ j,E j→dT T D j∨w.heap.size≤j) (hu:(cs.drop k).take 1=[v]):Yv P W M T n G D F E (.load t x) v:=fun a w _ _ _ _ _ hS=>by
  subst hp
  exact tS (us:=[v]) hS c.h hF.choose hF.choose_spec hx (hE a w hS) hu rfl (fun _=>rfl)
theorem K5 {ops:Array Oper} {mods:List (Nat×Tn)} {ls:Array Bool} {i k:Nat} (h:rem ops mods ls i=[]:=by first | exact rfl | kernel_rfl):¬ Eo (rem ops mods ls i) k:=by rw [h]; exact bo
theorem K6 {ops:Array Oper} {mods:List (Nat×Tn)} {ls:Array Bool} {i:Nat} (h:rem ops mods ls i=[]:=by first | exact rfl | kernel_rfl):∀ a w,St W M T n G D F a w→∀ j,Eo (rem ops mods ls i) j→dT T D j∨w.heap.size≤j:=by rw [h]; exact fun _ _ _=>Ai
theorem Yv.e {d:Option Nat} {ty:TypeId} {pos:String} {af:Array Edge} {g:Option (Nat×Bool)} {op:Op} {a:Act} {w:World} (h:Yv P W M T n G D F E op v) (hS:St W M T n G D F a w):Ye P ⟨d,op,ty,pos,af,g⟩ a E w v:=h a w d ty pos af g hS
theorem yA {op:Op} (h:Yv P W M T n G D F E op v:=by
  first
    | ((with_reducible apply Yv.mv); exact rfl)
    | ((with_reducible apply Yv.bi); exact rfl; exact rfl; exact rfl)
    | ((with_reducible apply Yv.as); exact rfl)
    | ((with_reducible apply Yv.fl); exact rfl)
    | ((with_reducible apply Yv.l1); exact rfl; exact fR; (first | exact id | exact K5); exact rfl)
    | ((with_reducible apply Yv.la); exact rfl; exact fR; (first | exact id | exact K5); exact Le)
    | ((with_reducible apply Yv.c1); exact rfl; exact fD; (first | exact Nat.add_zero _ | exact rfl | exact (Nat.add_assoc _ _ _).symm); (first | exact (fun _ _ _ _ h=>h.elim) | exact K6); exact rfl)
    | ((with_reducible apply Yv.ca); exact rfl; exact fD; (first | exact Nat.add_zero _ | exact rfl | exact (Nat.add_assoc _ _ _).symm); (first | exact (fun _ _ _ _ h=>h.elim) | exact K6); exact Le)
    | ((with_reducible apply Yv.pt); exact rfl; exact kn; exact rfl)
    | ((with_reducible apply Yv.pf); exact rfl; exact kn; exact rfl)
    | ((with_reducible apply Yv.ex); exact rfl; exact rfl)
    | ((with_reducible apply Yv.no); exact rfl)
    | ((with_reducible apply Yv.nl); exact rfl)
    | ((with_reducible apply Yv.bs); exact rfl; exact rfl; exact rfl)
    | ((with_reducible apply Yv.ll); exact rfl; exact fD)
    | ((with_reducible apply Yv.lo); exact rfl; exact fR; exact fD)
    | ((with_reducible apply Yv.ls); exact rfl)
    | ((with_reducible apply Yv.cv); exact rfl)
    | ((with_reducible apply Yv.ng); exact rfl)):Yv P W M T n G D F E op v:=h
end
def Rn (W:World) (M T:Nat→Prop) (n:Nat) (F:List bU) (b:Bool) (G:List (Nat×Value)) (D:List cx) (X:Act→World→Prop) (G':List (Nat×Value)) (D':List cx) (X':Act→World→Prop):Prop :=
  ∀ w,(∀ a w',(b=true→w'=w)→St W M T n G' D' F a w'→X' a w')→∀ a,St W M T n G D F a w→X a w
section
variable {b:Bool} {G G':List (Nat×Value)} {D D':List cx} {X X' K:Act→World→Prop} {Q:Exit→Act→World→Prop} {ops:Array Oper} {l:List Oper} {op:Op} {v:Value} {d j t:Nat} {ty tt:TypeId} {pos:String} {af:Array Edge} {want c:Bool} {x y z:Code} {id:Nat} {u:Operand}
theorem Rn.fin:Rn W M T n F b G D X G D X:=fun w k a hS=>k a w (fun _=>rfl) hS
theorem Rn.yv (h:Yv P W M T n G D F No op v) (hn:Nat.blt d n=true) (k:Rn W M T n F b ((d,v) :: G) D (wpList P ops Q l) G' D' X'):Rn W M T n F b G D (wpList P ops Q (⟨some d,op,ty,pos,af,none⟩ :: l)) G' D' X' :=
  fun w K a hS=>wy hS (h a w _ _ _ _ _ hS) rfl rfl hn fun a hS=>k w K a hS
def H3 (u:Value) (want:Bool) (A B:Prop):Prop:=(∃ c,u = .bool c∧c=want∧A)∨(((∃ c,u = .bool c∧c = !want)∨u=undef)∧B)
theorem Ku {A B:Prop} (h:c=want) (k:A):H3 (.bool c) want A B:=.inl ⟨c,rfl,h,k⟩
theorem Ks {A B:Prop} (h:c = !want) (k:B):H3 (.bool c) want A B:=.inr ⟨.inl ⟨c,rfl,h⟩,k⟩
theorem Kv {A B:Prop} (k:B):H3 undef want A B:=.inr ⟨.inr rfl,k⟩
theorem AL {o:Oper} {g:Option (Nat×Bool)} {a:Act} {w:World} {rest:List Oper} (h:wpList P ops Q ({ o with guard:=none } :: rest) a w) (hw:Region.wanted { o with guard:=g } (yielded ops a.tmps)=true):wpList P ops Q ({ o with guard:=g } :: rest) a w:=by
  unfold wpList at h ⊢
  rw [if_pos hw]
  rw [if_pos (by simp [Region.wanted])] at h
  exact h
theorem Rn.gd {uv:Value} (hj:(ops[j]?).bind (·.dst)=some t) (ht:lk G t=some uv) (hn:Nat.blt d n=true)
    (k:H3 uv want (Rn W M T n F b G D (wpList P ops Q (⟨some d,op,ty,pos,af,none⟩ :: l)) G' D' X') (Rn W M T n F b ((d,undef) :: G) D (wpList P ops Q l) G' D' X')):Rn W M T n F b G D (wpList P ops Q (⟨some d,op,ty,pos,af,some (j,want)⟩ :: l)) G' D' X':=by
  intro w K a hS
  rcases k with⟨c,h1,h2,k⟩|⟨h1 | h1,k⟩
  · subst h1
    exact AL (o:=⟨some d,op,ty,pos,af,none⟩) (k w K a hS) (by rw [nk hS rfl hj ht,h2]; simp)
  · obtain⟨c,h1,h2⟩:=h1
    subst h1
    exact wn hS rfl hj ht h2 rfl hn fun a hS=>k w K a hS
  · subst h1
    exact Mh hS rfl hj ht rfl hn fun a hS=>k w K a hS
theorem Rn.st {ag:Bool} {Z bb o:Nat} {cs us:List Value} {bt:TypeId} {xx yy:Operand} [ct:qX P tt ag Z] {i:Nat} (hx:ev G xx=some (.pointer (some ⟨bb,o,none⟩))) (hi:D[i]? = some (.box bb cs bt)) (hy:ev G yy=some v)
    (h1:∀ a w,St W M T n G D F a w→Cl Z v us) (h2:∀ a w,St W M T n G D F a w→∀ u ∈ us,u.oneCell'=true) (hl:Nat.ble (o + Z) cs.length=true) (k:Rn W M T n F false G (D.set i (.box bb (k7 cs o us) bt)) (wpList P ops Q l) G' D' X'):Rn W M T n F false G D (wpList P ops Q (⟨none,.store tt xx yy,ty,pos,af,none⟩ :: l)) G' D' X' :=
  fun w K a hS=>wl rfl (qt hS hx hy (h1 a w hS).1 ct.h i hi (h1 a w hS).2 hl (h2 a w hS) fun w hk hS=>k w (fun a w' _ hS=>K a w' (fun h=>by cases h) hS) _ hS)
theorem az {a:Act} {w:World} (h:x.wp P (SQ P z Q) a w):(Code.seq x z).wp P Q a w:=wp_seq h
theorem Rn.rq (hg:(l.all fun o=>o.guard.isNone)=true) (k:Rn W M T n F b G D (wpList P l.toArray (SQ P z Q) l) G' D' X'):Rn W M T n F b G D (Code.wp P (Code.seq (Code.region id l.toArray false) z) Q) G' D' X':=fun w K a hS=>wp_seq (wp_region_lit (k w K a hS))
theorem jV {l:List Oper} {a:Act} {w:World} (h:wpList P l.toArray (SQ P z Q) l a w):(Code.seq (Code.region id l.toArray false) z).wp P Q a w:=wp_seq (wp_region_lit h)
theorem Rn.rl (k:Rn W M T n F b G D (wpList P l.toArray Q l) G' D' X'):Rn W M T n F b G D (Code.wp P (Code.region id l.toArray false) Q) G' D' X':=fun w K a hS=>wp_region_lit (k w K a hS)
theorem Rn.rz (k:Rn W M T n F b G D (Q .normal) G' D' X'):Rn W M T n F b G D (wpList P ops Q []) G' D' X':=fun w K a hS=>wpList_nil (k w K a hS)
theorem Rn.sq (k:Rn W M T n F b G D (z.wp P Q) G' D' X'):Rn W M T n F b G D (SQ P z Q .normal) G' D' X':=k
theorem Rn.th (k:Rn W M T n F b G D (K) G' D' X'):Rn W M T n F b G D (Exit.then K Q .normal) G' D' X':=k
theorem Rn.ib (k:Rn W M T n F b G D (Q .normal) G' D' X'):Rn W M T n F b G D (Exit.inBlock id Q .normal) G' D' X':=k
theorem Rn.sk (k:Rn W M T n F b G D (Q .normal) G' D' X'):Rn W M T n F b G D (Code.wp P .skip Q) G' D' X':=fun w K a hS=>wp_skip (k w K a hS)
theorem Rn.bl (k:Rn W M T n F b G D (x.wp P (Exit.inBlock id Q)) G' D' X'):Rn W M T n F b G D (Code.wp P (.block id x) Q) G' D' X':=fun w K a hS=>wp_block (k w K a hS)
theorem Rn.ct (hu:ev G u=some (.bool c)) (hc:c=true) (k:Rn W M T n F b G D (x.wp P Q) G' D' X'):Rn W M T n F b G D (Code.wp P (.cond u x y) Q) G' D' X':=fun w K a hS=>K1 hS hu hc (k w K a hS)
theorem Rn.cf (hu:ev G u=some (.bool c)) (hc:c=false) (k:Rn W M T n F b G D (y.wp P Q) G' D' X'):Rn W M T n F b G D (Code.wp P (.cond u x y) Q) G' D' X':=fun w K a hS=>JO hS hu hc (k w K a hS)
theorem Rn.xt (k:Rn W M T n F b G D (Q (.exit j)) G' D' X'):Rn W M T n F b G D (Code.wp P (.exit j) Q) G' D' X':=fun w K a hS=>wp_exit (k w K a hS)
theorem Rn.rt (k:Rn W M T n F b G D (Q .ret) G' D' X'):Rn W M T n F b G D (Code.wp P .ret Q) G' D' X':=fun w K a hS=>wp_ret (k w K a hS)
theorem Rn.sqr (k:Rn W M T n F b G D (Q .ret) G' D' X'):Rn W M T n F b G D (SQ P z Q .ret) G' D' X':=k
theorem Rn.sqe (k:Rn W M T n F b G D (Q (.exit j)) G' D' X'):Rn W M T n F b G D (SQ P z Q (.exit j)) G' D' X':=k
theorem Rn.thr (k:Rn W M T n F b G D (Q .ret) G' D' X'):Rn W M T n F b G D (Exit.then K Q .ret) G' D' X':=k
theorem Rn.the (k:Rn W M T n F b G D (Q (.exit j)) G' D' X'):Rn W M T n F b G D (Exit.then K Q (.exit j)) G' D' X':=k
theorem Rn.ibr (k:Rn W M T n F b G D (Q .ret) G' D' X'):Rn W M T n F b G D (Exit.inBlock id Q .ret) G' D' X':=k
theorem Rn.ibt (h:Nat.beq j id=true) (k:Rn W M T n F b G D (Q .normal) G' D' X'):Rn W M T n F b G D (Exit.inBlock id Q (.exit j)) G' D' X':=fun w K a hS=>by
  have h2:=k w K a hS
  simp only [Exit.inBlock]
  rw [if_pos (Nat.eq_of_beq_eq_true h)]; exact h2
theorem Rn.ibf (h:Nat.beq j id=false) (k:Rn W M T n F b G D (Q (.exit j)) G' D' X'):Rn W M T n F b G D (Exit.inBlock id Q (.exit j)) G' D' X':=fun w K a hS=>by
  have h2:=k w K a hS
  simp only [Exit.inBlock]
  rw [if_neg (fun e=>by rw [e] at h; simp at h)]; exact h2
theorem Lk (h:Rn W M T n F b G D X G' D' X':=by
  repeat (first
  | ((with_reducible apply Rn.yv); exact yA; exact rfl)
  | ((with_reducible apply Rn.gd); exact rfl; exact rfl; exact rfl; (first | apply Kv | (apply Ku; exact kn; (first | ((with_reducible apply Rn.yv); exact yA; exact rfl) | ((with_reducible apply Rn.st); exact rfl; exact fI; exact rfl; exact (fun a w hS=>HZ); exact (fun a w hS=>I6); exact rfl))) | (apply Ks; exact kn)))
  | ((with_reducible apply Rn.st); exact rfl; exact fI; exact rfl; exact (fun a w hS=>HZ); exact (fun a w hS=>I6); exact rfl)
  | (with_reducible apply Rn.rz)
  | (with_reducible apply Rn.sq)
  | (with_reducible apply Rn.th)
  | (with_reducible apply Rn.ib)
  | (with_reducible apply Rn.sk)
  | ((with_reducible apply Rn.ct); exact rfl; exact kn)
  | ((with_reducible apply Rn.cf); exact rfl; exact kn))
  exact Rn.fin):Rn W M T n F b G D X G' D' X':=h
theorem KZ (h:Rn W M T n F b G D X G' D' X':=by
  repeat (first
  | ((with_reducible apply Rn.yv); exact yA; exact rfl)
  | ((with_reducible apply Rn.gd); exact rfl; exact rfl; exact rfl; (first | apply Kv | (apply Ku; exact kn; (first | ((with_reducible apply Rn.yv); exact yA; exact rfl) | ((with_reducible apply Rn.st); exact rfl; exact fI; exact rfl; exact (fun a w hS=>HZ); exact (fun a w hS=>I6); exact rfl))) | (apply Ks; exact kn)))
  | ((with_reducible apply Rn.st); exact rfl; exact fI; exact rfl; exact (fun a w hS=>HZ); exact (fun a w hS=>I6); exact rfl)
  | (with_reducible apply Rn.rz)
  | ((with_reducible apply Rn.rq); exact rfl)
  | (with_reducible apply Rn.sq)
  | (with_reducible apply Rn.th)
  | (with_reducible apply Rn.ib)
  | (with_reducible apply Rn.sk)
  | (with_reducible apply Rn.bl)
  | ((with_reducible apply Rn.ct); exact rfl; exact kn)
  | ((with_reducible apply Rn.cf); exact rfl; exact kn)
  | (with_reducible apply Rn.rl)
  | (with_reducible apply Rn.rt)
  | (with_reducible apply Rn.xt)
  | (with_reducible apply Rn.sqr)
  | (with_reducible apply Rn.thr)
  | (with_reducible apply Rn.ibr)
  | (with_reducible apply Rn.sqe)
  | (with_reducible apply Rn.the)
  | ((with_reducible apply Rn.ibt); exact rfl)
  | ((with_reducible apply Rn.ibf); exact rfl))
  exact Rn.fin):Rn W M T n F b G D X G' D' X':=h
def K8 (ops:Array Oper) (listed:Array Bool) (i:Nat):Bool:=Region.free .any ops listed i && (Region.ready .any ops listed).contains i
def Re (P:Program) (ops:Array Oper) (Q:Exit→Act→World→Prop) (mods:List (Nat×Tn)) (W:World) (M T:Nat→Prop) (n:Nat) (D:List cx) (F:List bU) (is:List Nat) (fuel:Nat) (ls:Array Bool) (G:List (Nat×Value)) (fuel':Nat) (ls':Array Bool) (G':List (Nat×Value)):Prop :=
  ∀ a w,Region.noSelect ops=true→Qp Q→St W M T n G D F a w→(∀ a,St W M T n G' D F a w→qp P ops Q mods fuel' ls' a w)→qp P ops Q mods fuel ls a w
section
variable {mods:List (Nat×Tn)} {fuel fuel' i:Nat} {ls ls':Array Bool} {is:List Nat}
theorem Re.en:Re P ops Q mods W M T n D F [] fuel ls G fuel ls G:=fun a w _ _ hS k=>k a hS
theorem Re.va {f:Nat} (hfu:fuel=f + 1) (hi:ops[i]? = some ⟨some d,op,ty,pos,af,none⟩) (h:Yv P W M T n G D F (Eo (rem ops mods ls i)) op v) (hn:Nat.blt d n=true) (hr:K8 ops ls i=true) (k:Re P ops Q mods W M T n D F is f (ls.setIfInBounds i true) ((d,v) :: G) fuel' ls' G'):Re P ops Q mods W M T n D F (i :: is) fuel ls G fuel' ls' G' :=
  fun a w hs hQ hS K=>hfu ▸ dy i hi hs (Bool.and_eq_true_iff.1 hr).1 (Bool.and_eq_true_iff.1 hr).2 rfl hQ hS (h a w _ _ _ _ _ hS) rfl rfl hn fun a hS=>k a w hs hQ hS K
theorem Re.gu {uv:Value} {f:Nat} (hfu:fuel=f + 1) (hi:ops[i]? = some ⟨some d,op,ty,pos,af,some (j,want)⟩) (hj:(ops[j]?).bind (·.dst)=some t) (ht:lk G t=some uv) (hn:Nat.blt d n=true) (hr:K8 ops ls i=true)
    (k:H3 uv want (∃ v,Yv P W M T n G D F (Eo (rem ops mods ls i)) op v∧Re P ops Q mods W M T n D F is f (ls.setIfInBounds i true) ((d,v) :: G) fuel' ls' G') (Re P ops Q mods W M T n D F is f (ls.setIfInBounds i true) ((d,undef) :: G) fuel' ls' G')):Re P ops Q mods W M T n D F (i :: is) fuel ls G fuel' ls' G':=by
  intro a w hs hQ hS K
  subst hfu
  have h1:=Bool.and_eq_true_iff.1 hr
  rcases k with⟨c,e1,e2,v,h,k⟩|⟨e1 | e1,k⟩
  · subst e1
    exact vG i hi hs h1.1 h1.2 rfl hQ hS (h a w _ _ _ _ _ hS) rfl hj ht e2 rfl hn fun a hS=>k a w hs hQ hS K
  · obtain⟨c,e1,e2⟩:=e1
    subst e1
    exact Lq i hi hs h1.1 h1.2 hQ hS rfl hj ht e2 rfl hn fun a hS=>k a w hs hQ hS K
  · subst e1
    exact Kr i hi hs h1.1 h1.2 hQ hS rfl hj ht rfl hn fun a hS=>k a w hs hQ hS K
theorem gE (is:List Nat) {a:Act} {w:World} (hS:St W M T n G D F a w) (k:∀ a,St W M T n G' D F a w→qp P ops Q mods fuel' ls' a w) (h:Re P ops Q mods W M T n D F is fuel ls G fuel' ls' G':=by
  repeat (first
  | ((with_reducible apply Re.va); exact rfl; exact rfl; exact yA; exact rfl; kernel_rfl)
  | ((with_reducible apply Re.gu); exact rfl; exact rfl; exact rfl; exact rfl; exact rfl; kernel_rfl; (first | apply Kv | (apply Ku; exact kn; refine⟨_,yA,?_⟩) | (apply Ks; exact kn))))
  exact Re.en) (hs:Region.noSelect ops=true:=by kernel_rfl) (hQ:Qp Q:=by assumption):qp P ops Q mods fuel ls a w:=h a w hs hQ hS k
end
def wJ (F:List bU):List Nat→List bU→Prop
  | _,[]=>True
  | [],_ :: _=>False
  | j :: js,f :: F'=>F[j]? = some f∧wJ F js F'
theorem wJ.to {F:List bU}:∀ {js:List Nat} {F':List bU},wJ F js F'→zY F F'
  | _,[],_=>trivial
  | [],_ :: _,h=>h.elim
  | j :: js,f :: F',h=>⟨⟨j,h.1⟩,h.2.to⟩
theorem L6 {F:List bU}:wJ F [] []:=trivial
theorem L5 {F F':List bU} {j:Nat} {js:List Nat} {f:bU} (h:F[j]? = some f) (k:wJ F js F'):wJ F (j :: js) (f :: F'):=⟨h,k⟩
theorem Ld {F F':List bU} {js:List Nat} (h:wJ F js F':=by repeat (first | exact L6 | (apply L5; exact rfl))):wJ F js F':=h
theorem Lc:lY D [] []:=trivial
theorem Lb {i:Nat} {is:List Nat} {r:cx} (h:D[i]? = some r) (k:lY D is D'):lY D (i :: is) (r :: D'):=⟨h,k⟩
theorem Jj {is:List Nat} (h:lY D is D':=by repeat (first | exact Lc | (apply Lb; exact rfl))):lY D is D':=h
theorem lY.app:∀ {is js:List Nat} {D0 D1:List cx},lY D is D0→lY D js D1→lY D (is ++ js) (D0 ++ D1)
  | [],_,[],_,_,k=>k
  | [],_,_ :: _,_,h,_=>h.elim
  | _ :: _,_,[],_,h,_=>h.elim
  | _ :: _,_,_ :: _,_,h,k=>⟨h.1,lY.app h.2 k⟩
section
variable {F':List bU} {a:Act} {w:World} {D0 D1:List cx} {α β:Type} {R:aN α} {R2:aN β} {xs:List α} {ys:List β} {vv v2:Value} {cl sJ:List Value} {e e2:TypeId}
theorem St.mt (h:St W M T n G D F a w) (is js:List Nat) (hG:FB G G':=by repeat (first | exact trivial | refine⟨rfl,?_⟩)) (hD:lY D is D':=by exact Jj) (hF:wJ F js F':=by exact Ld) (hn:is.Nodup:=by decide):St W M T n G' D' F' a w:=h.meet is hn hG hD hF.to
theorem St.sl (h:St W M T n G D F a w) (is js:List Nat) (hD:lY D is D':=by exact Jj) (hF:wJ F js F':=by exact Ld) (hn:is.Nodup:=by decide):St W M T n [] D' F' a w:=h.meet is hn trivial hD hF.to
theorem St.rd (h:St W M T n G D F a w) (is:List Nat) (hD:lY D is D':=by exact Jj) (hn:is.Nodup:=by decide):St W M T n G D' F a w:=h.reD is hn hD
theorem St.re (h:St W M T n G D F a w) (is js:List Nat) (h0:lY D is D0:=by exact Jj) (h1:lY D js D1:=by exact Jj) (hn:(is ++ js).Nodup:=by decide):St W M T n G (D0 ++ D1) F a w:=h.reD (is ++ js) hn (h0.app h1)
theorem St.fS (h:St W M T n G D F a w) (k:aA R (dT T D) w vv xs):St W M T n G D (aJ R vv xs :: F) a w:=h.fact (aJ R vv xs) k
theorem St.fR (h:St W M T n G D F a w) (k:aB R (dT T D) w cl xs):St W M T n G D (am R cl xs :: F) a w:=h.fact (am R cl xs) k
theorem St.fM {κ ν:Type} {RK:aN κ} {ak:Bool} {RV:aN ν} {av:Bool} {es:Array MapEntry} {ms:List (κ×ν)} (h:St W M T n G D F a w) (k:bx RK ak RV av (dT T D) w es ms):St W M T n G D (mS RK ak RV av es ms :: F) a w:=h.fact (mS RK ak RV av es ms) k
theorem bV {w':World} (hA:∀ rs:List cx,(∀ r ∈ rs,r.ok w'∧∀ k,r.dom k→w.heap.size≤k)→(rs.Pairwise fun r s=>∀ k,r.dom k→¬ s.dom k)→St W M T n G (rs ++ D) F a w'):St W M T n G D F a w':=hA [] (fun r hr=>by cases hr) List.Pairwise.nil
theorem oI {w':World} (hA:∀ rs:List cx,(∀ r ∈ rs,r.ok w'∧∀ k,r.dom k→w.heap.size≤k)→(rs.Pairwise fun r s=>∀ k,r.dom k→¬ s.dom k)→St W M T n G (rs ++ D) F a w') (h:fu R (dT T D) w w' [.own vv e R.size cl] e vv cl xs) (h0:0 < R.size:=by decide):St W M T n G ([.own vv e R.size cl] ++ D) (am R cl xs :: F) a w' :=
  (hA [.own vv e R.size cl] (eA ⟨h.1,h0⟩ h.2.1) (ro _)).fact (am R cl xs) (h.2.2.keep (Kt.refl _ _) (iB _))
theorem s7 {w':World} (hA:∀ rs:List cx,(∀ r ∈ rs,r.ok w'∧∀ k,r.dom k→w.heap.size≤k)→(rs.Pairwise fun r s=>∀ k,r.dom k→¬ s.dom k)→St W M T n G (rs ++ D) F a w') (h:fu R (dT T D) w w' [.own vv e R.size cl,.own v2 e2 R2.size sJ] e vv cl xs) (k:fu R2 (dT T D) w w' [.own vv e R.size cl,.own v2 e2 R2.size sJ] e2 v2 sJ ys) (hp:∀ k,vv.ownBlock=some k→v2.ownBlock ≠ some k) (h0:0 < R.size:=by decide) (k0:0 < R2.size:=by decide):St W M T n G ([.own vv e R.size cl,.own v2 e2 R2.size sJ] ++ D) (am R2 sJ ys :: am R cl xs :: F) a w' :=
  ((hA [.own vv e R.size cl,.own v2 e2 R2.size sJ] (FE ⟨h.1,h0⟩ h.2.1 ⟨k.1,k0⟩ k.2.1) (K9 hp)).fact (am R cl xs) (h.2.2.keep (Kt.refl _ _) (iB _))).fact (am R2 sJ ys) (k.2.2.keep (Kt.refl _ _) (iB _))
theorem L4 {is:List Nat} (h:lY D is D':=by repeat (first | exact Lc | (apply Lb; exact fI))):lY D is D':=h
theorem St.mtS {is:List Nat} (h:St W M T n G D F a w) (hG:FB G G':=by repeat (first | exact trivial | refine⟨rfl,?_⟩)) (hD:lY D is D':=by exact L4) (hF:zY F F':=by repeat (first | exact trivial | refine⟨fD,?_⟩)) (hn:is.Nodup:=by decide):St W M T n G' D' F' a w:=h.meet is hn hG hD hF
end
theorem lo {S R Y:Type} {u r:R} {f:Fl S R} {k:R→Option Y} {y:Y} (hM:some (Fl.out u)=some f) (hf:∀ u,f = .out u→u=r) (hk:k r=some y):k u=some y:=by
  rw [hf u (Option.some.inj hM).symm]; exact hk
theorem I3 {S R Y S2:Type} {s:S2} {r:Fl S2 R} {f:Fl S (Fl S2 R)} {p:S2→Option Y} {q:R→Option Y} {y:Y} (hM:some (Fl.out (Fl.go s))=some f) (hf:∀ u,f = .out u→u=r) (hk:Fl.el r p q=some y):p s=some y:=by
  have h:=hf _ (Option.some.inj hM).symm
  subst h; exact hk
theorem F7 {S R Y S2:Type} {s:R} {r:Fl S2 R} {f:Fl S (Fl S2 R)} {p:S2→Option Y} {q:R→Option Y} {y:Y} (hM:some (Fl.out (Fl.out s))=some f) (hf:∀ u,f = .out u→u=r) (hk:Fl.el r p q=some y):q s=some y:=by
  have h:=hf _ (Option.some.inj hM).symm
  subst h; exact hk
theorem cd {α:Type} {b:Bool} {x y r:α} (h:cond b x y=r):(b=true∧x=r)∨(b=false∧y=r):=by cases b <;> simp_all
theorem go {a:Act} {w:World} (hS:St W M T n G D F a w) (k:∀ a w,St W M T n G' D' F a w→X' a w) (h:Rn W M T n F false G D X G' D' X':=by exact KZ):X a w:=h w (fun a w' _ hS=>k a w' hS) a hS
theorem IY {a:Act} {w:World} (hS:St W M T n G D F a w) (k:∀ a,St W M T n G' D' F a w→X' a w) (h:Rn W M T n F true G D X G' D' X':=by exact Lk):X a w:=h w (fun a w' e hS=>by cases e rfl; exact k a hS) a hS
theorem ah {a:Act} {w:World} (hS:St W M T n G D F a w) (k:∀ a,St W M T n G' D' F a w→X' a w) (h:Rn W M T n F true G D X G' D' X':=by exact KZ):X a w:=h w (fun a w' e hS=>by cases e rfl; exact k a hS) a hS
section
variable {a:Act} {w:World} {E:Nat→Prop} {o:Oper} {fuel:Nat} {ls:Array Bool} {mods:List (Nat×Tn)} {cs us:List Value} {ag:Bool} {Z bb off:Nat} {bt e:TypeId} {xx yy X Y:Operand} {g:Option (Nat×Bool)} {args:Array Operand} {tys:Array TypeId} {f:Nat} {vs:List Value} {R:Value→World→Prop} {fn:Func}
theorem en {c:Code} {W0:World} {av:List Value} (hf:P.funcs[f]? = some fn) (hn:fn.ntmps=n) (hT:∀ k,T k→k < W0.heap.size) (h:∀ a,St W0 M T n (kC 0 av) [] [] a W0→c.wp P (bodyPost P fn (H7 M W0 R)) a W0) (hb:fn.body=some c:=by rfl) (hl:Nat.ble av.length n=true:=by rfl):aW P M f av W0 R:=enter hf hb T n hn hT hl h
theorem ka (hS:St W M T n G D F a w) (hz:iO P tt=some cs) (k:∀ b,w.heap.size≤b→∀ a w',Kt No w w'→St W M T n ((d,.pointer (some ⟨b,0,none⟩)) :: G) (.box b cs tt :: D) F a w'→wpList P ops Q l a w') (hn:Nat.blt d n=true:=by rfl):wpList P ops Q (⟨some d,.alloc tt,ty,pos,af,none⟩ :: l) a w:=wl rfl (cr hS hz hn k)
theorem kb (hS:St W M T n G D F a w) (k:∀ b,w.heap.size≤b→∀ a w',Kt No w w'→St W M T n ((d,.pointer (some ⟨b,0,none⟩)) :: G) (.box b cs tt :: D) F a w'→wpList P ops Q l a w') (hx:ev G X=some v:=by rfl) (hv:Cl Z v cs:=by exact HZ) (hn:Nat.blt d n=true:=by rfl):wpList P ops Q (⟨some d,.box tt X,ty,pos,af,none⟩ :: l) a w:=wl rfl (A8 hS hx hv.1 hn k)
theorem kc (hS:St W M T n G D F a w) (hf:aL P f=true) (hc:aW P No f vs w R)
    (k:∀ v w',R v w'→∀ a,Kt No w w'→(∀ rs:List cx,(∀ r ∈ rs,r.ok w'∧∀ k,r.dom k→w.heap.size≤k)→(rs.Pairwise fun r s=>∀ k,r.dom k→¬ s.dom k)→St W M T n ((d,v) :: G) (rs ++ D) F a w')→wpList P ops Q l a w') (hargs:evs G args.toList=some vs:=by rfl) (hn:Nat.blt d n=true:=by rfl):wpList P ops Q (⟨some d,.call { callee:=.value (.func f),args:=args,argTypes:=tys },ty,pos,af,none⟩ :: l) a w:=wl rfl (a8 hS hf hargs hn hc k)
theorem e1 (i:Nat) (h:oA P o a w (fun a' w'=>FA mods i w w'∧qp P ops Q mods fuel (ls.setIfInBounds i true) a' w')) (hi:ops[i]? = some o:=by rfl) (hr:Region.ready .any ops ls=[i]:=by kernel_rfl) (hg:o.guard=none:=by rfl):qp P ops Q mods (fuel + 1) ls a w:=qK hi hr hg h
theorem ec (i:Nat) (hS:St W M T n G D F a w) (hf:aL P f=true) (hc:aW P No f vs w R)
    (k:∀ v w',R v w'→∀ a,Kt No w w'→(∀ rs:List cx,(∀ r ∈ rs,r.ok w'∧∀ k,r.dom k→w.heap.size≤k)→(rs.Pairwise fun r s=>∀ k,r.dom k→¬ s.dom k)→St W M T n ((d,v) :: G) (rs ++ D) F a w')→qp P ops Q mods fuel (ls.setIfInBounds i true) a w') (hi:ops[i]? = some ⟨some d,.call { callee:=.value (.func f),args:=args,argTypes:=tys },ty,pos,af,none⟩:=by rfl) (hr:Region.ready .any ops ls=[i]:=by kernel_rfl) (hargs:evs G args.toList=some vs:=by rfl) (hn:Nat.blt d n=true:=by rfl):qp P ops Q mods (fuel + 1) ls a w :=
  qK hi hr rfl (a8 hS hf hargs hn hc fun v w' hR a hk hA=>⟨fc hk,k v w' hR a hk hA⟩)
theorem es (i:Nat) [ct:qX P tt ag Z] {q:Nat} (hS:St W M T n G D F a w) (k:∀ w',St W M T n G (D.set q (.box bb (k7 cs off us) bt)) F a w'→qp P ops Q mods fuel (ls.setIfInBounds i true) a w') (hi:ops[i]? = some ⟨none,.store tt xx yy,ty,pos,af,none⟩:=by rfl) (hr:Region.ready .any ops ls=[i]:=by kernel_rfl) (hx:ev G xx=some (.pointer (some ⟨bb,off,none⟩)):=by rfl) (hD:D[q]? = some (.box bb cs bt):=by exact fI) (hy:ev G yy=some v:=by rfl) (h1:Cl Z v us:=by exact HZ) (h2:∀ u ∈ us,u.oneCell'=true:=by exact I6) (hl:Nat.ble (off + Z) cs.length=true:=by rfl) (hm:sP mods i=[.blk (some bb)]:=by rfl):qp P ops Q mods (fuel + 1) ls a w :=
  qK hi hr rfl (qt hS hx hy h1.1 ct.h q hD h1.2 hl h2 fun w' hk hS=>⟨kB hm hk iC,k w' hS⟩)
theorem eD (h:Q .normal a w) (hr:Region.ready .any ops ls=[]:=by kernel_rfl):qp P ops Q mods fuel ls a w:=zK hr h fuel
theorem dr {N:Nat} (mods:List (Nat×Tn)) (hS:St W M T n G D F a w) (h:∀ w,Qp Q→St W M T n G D F a w→qp P l.toArray Q mods N (Array.replicate N false) a w) (hm:P.follows .mixedOrders=true:=by exact mixed) (hN:l.length=N:=by rfl) (hQ:Qp Q:=by exact (fun c a d v w h=>by cases d <;> exact h)):(Code.region id l.toArray true).wp P Q a w:=F3 mods hS hm hN hQ h
theorem rC [ct:qX P tt ag Z] {c:Nat} (i:Nat) (hS:St W M T n G D F a w) (hv:lk G c=some (.pointer (some ⟨bb,0,none⟩)):=by rfl) (hi:D[i]? = some (.box bb cs bt):=by rfl) (hl:cs.length=Z:=by rfl) (hz:ag=false→Z=1:=by first | exact (fun h=>by cases h) | exact fun _=>rfl):sj P a w [.cell c tt] [aX ag cs]:=a7 hS hv i hi ct.h hl hz aD
end
theorem fin {p:Prop} (h:p:=by
  first
  | ((repeat (apply Exists.intro)); exact⟨hS.mtS,hM⟩)
  | (refine⟨_,(Option.some.inj hM).symm,?_⟩; (repeat (apply Exists.intro)); exact⟨rfl,hS.mtS⟩)
  | (cases hM; exact aE hS rfl (ap hS rfl aD) rfl)
  | (have hM:=I3 hM hf1 hMo1; first | ((repeat (apply Exists.intro)); exact⟨hS.mtS,hM⟩) | (cases hM; exact aE hS rfl (ap hS rfl aD) rfl))
  | (have hM:=F7 hM hf1 hMo1; first | ((repeat (apply Exists.intro)); exact⟨hS.mtS,hM⟩) | (cases hM; exact aE hS rfl (ap hS rfl aD) rfl))
  | (have hM:=lo hM hf1 hMo1; first | ((repeat (apply Exists.intro)); exact⟨hS.mtS,hM⟩) | (cases hM; exact aE hS rfl (ap hS rfl aD) rfl))
  | (have hM:=I3 hM hf2 hMo2; first | ((repeat (apply Exists.intro)); exact⟨hS.mtS,hM⟩) | (cases hM; exact aE hS rfl (ap hS rfl aD) rfl))
  | (have hM:=F7 hM hf2 hMo2; first | ((repeat (apply Exists.intro)); exact⟨hS.mtS,hM⟩) | (cases hM; exact aE hS rfl (ap hS rfl aD) rfl))
  | (have hM:=lo hM hf2 hMo2; first | ((repeat (apply Exists.intro)); exact⟨hS.mtS,hM⟩) | (cases hM; exact aE hS rfl (ap hS rfl aD) rfl))):p:=h
theorem fz {p:Prop} (h:p:=by
  refine go hS fun a w hS=>?_
  repeat' (first | exact fin | (rcases cd hM with⟨_,hM⟩|⟨_,hM⟩ <;> refine go hS fun a w hS=>?_))):p:=h
end
end
end
section
open Go.RowKit
structure al where
  Rules:(List aK)
  Base:ai
  Memo:(List (ae×ByteArray))
  Seen:(List (ae×(List ae)))
structure nE where
  Done:Bool
  Value:ByteArray
  Ask:ae
theorem Ik:aL Tryz.prog 123=true:=by kernel_rfl
theorem FP:aL Tryz.prog 124=true:=by kernel_rfl
theorem AZ:aL Tryz.prog 149=true:=by kernel_rfl
theorem A0:aL Tryz.prog 150=true:=by kernel_rfl
theorem CI:aL Tryz.prog 151=true:=by kernel_rfl
theorem tb:aL Tryz.prog 152=true:=by kernel_rfl
theorem F0:aL Tryz.prog 182=true:=by kernel_rfl
theorem A2:aL Tryz.prog 184=true:=by kernel_rfl
theorem IF:aL Tryz.prog 199=true:=by kernel_rfl
theorem F1:aL Tryz.prog 200=true:=by kernel_rfl
theorem IG:aL Tryz.prog 202=true:=by kernel_rfl
theorem CJ:aL Tryz.prog 236=true:=by kernel_rfl
theorem II:aL Tryz.prog 311=true:=by kernel_rfl
theorem EH:dP Tryz.prog 131 0=some 0:=by kernel_rfl
theorem EI:dP Tryz.prog 131 1=some 2:=by kernel_rfl
theorem EJ:dP Tryz.prog 131 2=some 3:=by kernel_rfl
theorem EP:dP Tryz.prog 160 0=some 0:=by kernel_rfl
theorem EQ:dP Tryz.prog 160 1=some 1:=by kernel_rfl
theorem ER:dP Tryz.prog 160 2=some 4:=by kernel_rfl
theorem ES:dP Tryz.prog 190 0=some 0:=by kernel_rfl
theorem ET:dP Tryz.prog 190 1=some 1:=by kernel_rfl
theorem EU:dP Tryz.prog 190 2=some 2:=by kernel_rfl
theorem I9:zS Tryz.prog 160=some [(0,1),(1,3),(4,1),(5,1)]:=by kernel_rfl
theorem tz:zS Tryz.prog 190=some [(0,1),(1,1),(2,2)]:=by kernel_rfl
theorem DO:jj Tryz.prog 184=some 198:=by kernel_rfl
theorem Jr:l3 Tryz.prog 190=some (true,4):=by kernel_rfl
theorem KS:l3 Tryz.prog 73=some (false,1):=by kernel_rfl
theorem JC:iO Tryz.prog 160=some [.slice none 0 0,.int .i64 0,.slice none 0 0,.slice none 0 0,.map none,.map none]:=by kernel_rfl
theorem mP:iO Tryz.prog 190=some [.bool false,.string (ByteArray.mk #[]),.int .i64 0,.string (ByteArray.mk #[])]:=by kernel_rfl
theorem zR:Gi Tryz.prog 9=some (.string (ByteArray.mk #[])):=by kernel_rfl
end
section
open Go.RowKit
theorem Il:aL Tryz.prog 125=true:=by kernel_rfl
theorem FT:aL Tryz.prog 153=true:=by kernel_rfl
theorem FU:aL Tryz.prog 154=true:=by kernel_rfl
theorem FV:aL Tryz.prog 155=true:=by kernel_rfl
theorem FW:aL Tryz.prog 156=true:=by kernel_rfl
theorem A1:aL Tryz.prog 157=true:=by kernel_rfl
theorem Iy:aL Tryz.prog 158=true:=by kernel_rfl
theorem FX:aL Tryz.prog 160=true:=by kernel_rfl
theorem ID:aL Tryz.prog 185=true:=by kernel_rfl
theorem IE:aL Tryz.prog 186=true:=by kernel_rfl
theorem Ki:aL Tryz.prog 87=true:=by kernel_rfl
theorem GB:aL Tryz.prog 88=true:=by kernel_rfl
theorem Kj:aL Tryz.prog 89=true:=by kernel_rfl
theorem EV:dP Tryz.prog 198 0=some 0:=by kernel_rfl
theorem EW:dP Tryz.prog 198 1=some 2:=by kernel_rfl
theorem Ds:zS Tryz.prog 131=some [(0,2),(2,1),(3,1),(4,1),(5,1)]:=by kernel_rfl
theorem zF:l3 Tryz.prog 198=some (true,4):=by kernel_rfl
end
section
open Go.RowKit
theorem In:aL Tryz.prog 127=true:=by kernel_rfl
theorem CH:aL Tryz.prog 128=true:=by kernel_rfl
theorem IT:aL Tryz.prog 91=true:=by kernel_rfl
theorem Kk:aL Tryz.prog 92=true:=by kernel_rfl
theorem Kl:aL Tryz.prog 93=true:=by kernel_rfl
theorem Fe:zS Tryz.prog 31=some [(0,1),(1,1),(2,1)]:=by kernel_rfl
end
section
open Go.RowKit
structure aF where
  S:al
  B:ai
  Busy:(List (ae×Bool))
  Ran:(List ae)
  E:Int
theorem Ip:aL Tryz.prog 130=true:=by kernel_rfl
theorem Iq:aL Tryz.prog 131=true:=by kernel_rfl
theorem Iz:aL Tryz.prog 159=true:=by kernel_rfl
theorem GD:aL Tryz.prog 95=true:=by kernel_rfl
theorem EK:dP Tryz.prog 138 0=some 0:=by kernel_rfl
theorem EL:dP Tryz.prog 138 1=some 1:=by kernel_rfl
theorem EM:dP Tryz.prog 138 2=some 4:=by kernel_rfl
theorem EN:dP Tryz.prog 138 3=some 5:=by kernel_rfl
theorem EO:dP Tryz.prog 138 4=some 6:=by kernel_rfl
theorem Dt:zS Tryz.prog 138=some [(0,1),(1,3),(4,1),(5,1),(6,1)]:=by kernel_rfl
theorem Gc:l3 Tryz.prog 126=some (false,1):=by kernel_rfl
theorem Jq:l3 Tryz.prog 136=some (false,1):=by kernel_rfl
theorem Jt:l3 Tryz.prog 37=some (false,1):=by kernel_rfl
theorem D8:iO Tryz.prog 138=some [.pointer none,.int .i64 0,.slice none 0 0,.slice none 0 0,.map none,.slice none 0 0,.int .i64 0]:=by kernel_rfl
end
section
open Go.RowKit
theorem JU:aL Tryz.prog 30=true:=by kernel_rfl
theorem IH:aL Tryz.prog 31=true:=by kernel_rfl
theorem IJ:aL Tryz.prog 32=true:=by kernel_rfl
theorem JV:aL Tryz.prog 33=true:=by kernel_rfl
theorem Gw:aL Tryz.prog 55=true:=by kernel_rfl
theorem Gx:aL Tryz.prog 56=true:=by kernel_rfl
theorem JZ:aL Tryz.prog 57=true:=by kernel_rfl
theorem J0:aL Tryz.prog 58=true:=by kernel_rfl
theorem J1:aL Tryz.prog 59=true:=by kernel_rfl
theorem J2:aL Tryz.prog 60=true:=by kernel_rfl
end
section
open Go.RowKit
structure JE where
  Name:ByteArray
  Inputs:(List aq)
theorem Ig:aL Tryz.prog 112=true:=by kernel_rfl
theorem Ih:aL Tryz.prog 113=true:=by kernel_rfl
theorem Gu:aL Tryz.prog 12=true:=by kernel_rfl
theorem Ad:aL Tryz.prog 14=true:=by kernel_rfl
theorem JS:aL Tryz.prog 27=true:=by kernel_rfl
theorem Eq:aL Tryz.prog 37=true:=by kernel_rfl
theorem Er:aL Tryz.prog 38=true:=by kernel_rfl
theorem CK:aL Tryz.prog 40=true:=by kernel_rfl
theorem IL:aL Tryz.prog 41=true:=by kernel_rfl
theorem Ke:aL Tryz.prog 76=true:=by kernel_rfl
theorem IS:aL Tryz.prog 9=true:=by kernel_rfl
theorem F4:xR Tryz.prog 117=some (34,1,24):=by kernel_rfl
theorem GR:dP Tryz.prog 51 0=some 0:=by kernel_rfl
theorem GS:dP Tryz.prog 51 1=some 1:=by kernel_rfl
theorem Gb:jj Tryz.prog 117=some 34:=by kernel_rfl
theorem KE:jj Tryz.prog 48=some 51:=by kernel_rfl
theorem Js:l3 Tryz.prog 34=some (false,1):=by kernel_rfl
theorem KR:l3 Tryz.prog 51=some (true,2):=by kernel_rfl
theorem JD:iO Tryz.prog 34=some [.slice none 0 0]:=by kernel_rfl
theorem IW {W:World} {M T E:Nat→Prop} {n:Nat} {G:List (Nat×Value)} {D:List cx} {F:List bU} {a:Act} {w:World} {d:Option Nat} {t2:TypeId} {x y:Operand} {ty:TypeId} {pos:String} {af:Array Edge} {g:Option (Nat×Bool)} {p0 q0:Int} {p1 q1:ByteArray} {p2 q2:ByteArray} (hS:St W M T n G D F a w) (hx:ev G x=some (.agg #[.int .i64 p0,.string p1,.string p2])) (hy:ev G y=some (.agg #[.int .i64 q0,.string q1,.string q2])):Ye Tryz.prog ⟨d,.binOp .neq 46 x y t2,ty,pos,af,g⟩ a E w (.bool (!(p0 == q0 && p1.toList == q1.toList && p2.toList == q2.toList))) :=
  Ye.of fun w=>by
    have h1:=hS.ev hx
    have h2:=hS.ev hy
    clear hS hx hy
    simp only [execOp,h1,h2,eqGuard]
    simp [go_sem]
    (repeat' split) <;> simp_all
end
section
open Go.RowKit
theorem JP:aL Tryz.prog 10=true:=by kernel_rfl
theorem Gt:aL Tryz.prog 11=true:=by kernel_rfl
theorem JQ:aL Tryz.prog 13=true:=by kernel_rfl
theorem Lm:aL Tryz.prog 5=true:=by kernel_rfl
theorem K3:aL Tryz.prog 6=true:=by kernel_rfl
theorem Ln:aL Tryz.prog 7=true:=by kernel_rfl
theorem Lo:aL Tryz.prog 8=true:=by kernel_rfl
end
section
open Go.RowKit
instance:qX Tryz.prog 34 false 1:=⟨Js⟩
instance:qX Tryz.prog 51 true 2:=⟨KR⟩
instance:nD Tryz.prog 51 0 0:=⟨GR⟩
instance:nD Tryz.prog 51 1 1:=⟨GS⟩
instance:AS Tryz.prog 117 34:=⟨Gb⟩
instance:AS Tryz.prog 48 51:=⟨KE⟩
instance:qX Tryz.prog 28 false 1:=⟨KP⟩
instance:qX Tryz.prog 29 false 1:=⟨KQ⟩
instance:qX Tryz.prog 3 false 1:=⟨yu⟩
instance:qX Tryz.prog 31 true 3:=⟨ez⟩
instance:qX Tryz.prog 4 false 1:=⟨HM⟩
instance:qX Tryz.prog 44 true 2:=⟨dd⟩
instance:qX Tryz.prog 46 true 3:=⟨rK⟩
instance:qX Tryz.prog 58 false 1:=⟨AH⟩
instance:qX Tryz.prog 69 true 4:=⟨rL⟩
instance:qX Tryz.prog 84 true 8:=⟨k8⟩
instance:qX Tryz.prog 9 false 1:=⟨Fq⟩
instance:nD Tryz.prog 31 0 0:=⟨GK⟩
instance:nD Tryz.prog 31 1 1:=⟨GL⟩
instance:nD Tryz.prog 31 2 2:=⟨GM⟩
instance:nD Tryz.prog 44 0 0:=⟨GN⟩
instance:nD Tryz.prog 44 1 1:=⟨GO⟩
instance:nD Tryz.prog 46 0 0:=⟨GP⟩
instance:nD Tryz.prog 46 1 2:=⟨GQ⟩
instance:nD Tryz.prog 69 0 0:=⟨GV⟩
instance:nD Tryz.prog 69 1 2:=⟨GW⟩
instance:nD Tryz.prog 69 2 3:=⟨GX⟩
instance:nD Tryz.prog 84 0 0:=⟨GY⟩
instance:nD Tryz.prog 84 1 2:=⟨GZ⟩
instance:nD Tryz.prog 84 2 3:=⟨G0⟩
instance:nD Tryz.prog 84 3 4:=⟨G2⟩
instance:nD Tryz.prog 84 4 5:=⟨G3⟩
instance:nD Tryz.prog 84 5 6:=⟨G4⟩
instance:nD Tryz.prog 84 6 7:=⟨G5⟩
instance:AS Tryz.prog 22 3:=⟨Ck⟩
instance:AS Tryz.prog 28 69:=⟨sg⟩
instance:AS Tryz.prog 29 84:=⟨n4⟩
instance:AS Tryz.prog 34 46:=⟨sh⟩
instance:AS Tryz.prog 58 44:=⟨jd⟩
instance:qX Tryz.prog 22 false 1:=⟨KN⟩
instance:qX Tryz.prog 87 false 1:=⟨KT⟩
instance:qX Tryz.prog 89 true 4:=⟨tO⟩
instance:qX Tryz.prog 93 true 4:=⟨HN⟩
instance:nD Tryz.prog 64 0 0:=⟨GT⟩
instance:nD Tryz.prog 64 1 1:=⟨GU⟩
instance:nD Tryz.prog 89 0 0:=⟨G6⟩
instance:nD Tryz.prog 89 1 1:=⟨G7⟩
instance:nD Tryz.prog 89 2 2:=⟨G8⟩
instance:nD Tryz.prog 89 3 3:=⟨G9⟩
instance:nD Tryz.prog 93 0 0:=⟨Hd⟩
instance:nD Tryz.prog 93 1 1:=⟨He⟩
instance:nD Tryz.prog 93 2 2:=⟨Hf⟩
instance:nD Tryz.prog 93 3 3:=⟨Hh⟩
instance:AS Tryz.prog 27 89:=⟨uq⟩
instance:AS Tryz.prog 77 9:=⟨DP⟩
instance:AS Tryz.prog 87 93:=⟨HK⟩
instance:qX Tryz.prog 131 true 6:=⟨rJ⟩
instance:qX Tryz.prog 27 false 1:=⟨KO⟩
instance:qX Tryz.prog 77 false 1:=⟨AI⟩
instance:qX Tryz.prog 95 false 1:=⟨Ju⟩
instance:qX Tryz.prog 97 true 7:=⟨uw⟩
instance:nD Tryz.prog 131 3 4:=⟨xU⟩
instance:nD Tryz.prog 131 4 5:=⟨xV⟩
instance:nD Tryz.prog 97 0 0:=⟨Hi⟩
instance:nD Tryz.prog 97 1 1:=⟨Hj⟩
instance:nD Tryz.prog 97 2 4:=⟨Hk⟩
instance:nD Tryz.prog 97 3 5:=⟨Hl⟩
instance:nD Tryz.prog 97 4 6:=⟨Hm⟩
instance:AS Tryz.prog 95 131:=⟨wv⟩
instance:qX Tryz.prog 190 true 4:=⟨Jr⟩
instance:qX Tryz.prog 73 false 1:=⟨KS⟩
instance:nD Tryz.prog 131 0 0:=⟨EH⟩
instance:nD Tryz.prog 131 1 2:=⟨EI⟩
instance:nD Tryz.prog 131 2 3:=⟨EJ⟩
instance:nD Tryz.prog 160 0 0:=⟨EP⟩
instance:nD Tryz.prog 160 1 1:=⟨EQ⟩
instance:nD Tryz.prog 160 2 4:=⟨ER⟩
instance:nD Tryz.prog 190 0 0:=⟨ES⟩
instance:nD Tryz.prog 190 1 1:=⟨ET⟩
instance:nD Tryz.prog 190 2 2:=⟨EU⟩
instance:AS Tryz.prog 184 198:=⟨DO⟩
instance:qX Tryz.prog 198 true 4:=⟨zF⟩
instance:nD Tryz.prog 198 0 0:=⟨EV⟩
instance:nD Tryz.prog 198 1 2:=⟨EW⟩
instance:qX Tryz.prog 126 false 1:=⟨Gc⟩
instance:qX Tryz.prog 136 false 1:=⟨Jq⟩
instance:qX Tryz.prog 37 false 1:=⟨Jt⟩
instance:nD Tryz.prog 138 0 0:=⟨EK⟩
instance:nD Tryz.prog 138 1 1:=⟨EL⟩
instance:nD Tryz.prog 138 2 4:=⟨EM⟩
instance:nD Tryz.prog 138 3 5:=⟨EN⟩
instance:nD Tryz.prog 138 4 6:=⟨EO⟩
instance:FC Tryz.prog 3 (.int .i64):=⟨Tryz.underlying3⟩
instance:FC Tryz.prog 5 (.int .u8):=⟨Tryz.underlying5⟩
instance:FC Tryz.prog 9 .string:=⟨Tryz.underlying9⟩
instance:FC Tryz.prog 21 (.int .i32):=⟨Tryz.underlying21⟩
instance:FC Tryz.prog 146 (.int .u64):=⟨Tryz.underlying146⟩
abbrev pt (b o:Nat):Value:=.pointer (some ⟨b,o,none⟩)
abbrev om (b:Nat) (e:Array MapEntry) (c:Nat):cx:=.obj b (.map e c)
abbrev TW (T:Nat→Prop) (w:World):Prop:=∀ k,T k→k < w.heap.size
abbrev aM (x:ae):List Value:=[.int .i64 x.Kind,.string x.Text]
abbrev mW (x:aI):List Value:=[.int .i64 x.Key.Kind,.string x.Key.Text,.string x.Value,.int .i64 x.Changed]
abbrev a6 (x:an) (v0:Value):List Value:=[.int .i64 x.Key.Kind,.string x.Key.Text,.string x.Value,v0,.int .i64 x.Changed,.int .i64 x.Verified,.int .i64 x.Cost,.bool x.Dirty]
abbrev aQ (x:ai) (v0 v1:Value):List Value:=[.int .i64 x.Revision,v0,v1]
abbrev eU (x:aq):List Value:=[.int .i64 x.Key.Kind,.string x.Key.Text,.string x.Value]
abbrev aZ (x:aP) (v0:Value):List Value:=[v0,.int .i64 x.At]
abbrev Gq (x:cF):List Value:=[.bool x.Cell,.bool x.Pick,.int .i64 x.N,.int .i64 x.Else]
abbrev so (x:aK) (v0:Value):List Value:=[.bool x.Ring,v0,.int .i64 x.Final,.int .i64 x.C]
abbrev kr (x:bf) (v0 v1:Value):List Value:=[.int .i64 x.Key.Kind,.string x.Key.Text,.bool x.Running,.int .i64 x.At,v0,v1]
abbrev sr (x:cG) (v0 v1 v2 v3 v4 v5:Value):List Value:=[v0,.int .i64 x.Base.Revision,v1,v2,v3,v4,v5]
abbrev Ab (x:cw):List Value:=[.int .i64 x.Member.Kind,.string x.Member.Text,.int .i64 x.Read.Kind,.string x.Read.Text]
abbrev FG (x:nE):List Value:=[.bool x.Done,.string x.Value,.int .i64 x.Ask.Kind,.string x.Ask.Text]
abbrev LL:=List (ae×(List ae))
abbrev LB:=List (ae×ByteArray)
abbrev LO:=List (ae×Bool)
abbrev LR:=List an
abbrev LI:=List aI
abbrev LK:=List ae
abbrev LU:=List aK
abbrev LV:=List Value
abbrev AM:=Array MapEntry
abbrev LN:=List Int
abbrev LY:=List ByteArray
abbrev LF:=List bf
abbrev LC:=List aq
abbrev tw (v:Value) (c:List Value):cx:=.own v 93 dN.size c
abbrev bn (v:Value) (c:List Value):cx:=.own v 46 aj.size c
abbrev lf (v:Value) (c:List Value):cx:=.own v 198 eO.size c
abbrev cX (v:Value) (c:List Value):cx:=.own v 131 ar.size c
abbrev aR (v:Value) (c:List Value):cx:=.own v 69 ad.size c
abbrev au (v:Value) (c:List Value):cx:=.own v 44 ac.size c
abbrev aH (v:Value) (c:List Value):cx:=.own v 84 aa.size c
abbrev bJ (v:Value) (c:List Value):cx:=.own v 89 ay.size c
abbrev iv (e:Array MapEntry) (x:List (ae×ByteArray)):bU:=mS ac true aN.str false e x
abbrev po (e:Array MapEntry) (x:List (ae×(List ae))):bU:=mS ac true (aN.slice ac) false e x
abbrev sx (e:Array MapEntry) (x:List (ae×Bool)):bU:=mS ac true aN.bool false e x
abbrev xS (b:Nat) (v:Value) (r:Int) (v1 v2:Value) (m k:Nat):cx:=.box b [v,.int .i64 r,v1,v2,.map (some m),.map (some k)] 160
abbrev xE (b d:Nat) (r:Int) (v1 v2:Value) (m:Nat) (v3:Value) (e:Int):cx:=.box b [.pointer (some ⟨d,0,none⟩),.int .i64 r,v1,v2,.map (some m),v3,.int .i64 e] 138
end
section
set_option maxRecDepth 100000
set_option maxHeartbeats 4000000
open Go.RowKit
noncomputable section
def mq:Option Bool:=some (true)
def f8 (e:LK) (f:LK) (b:Int):Option (Fl (Int) (Fl (Unit) Bool)):=cond (decide ((b:Int) < (e.length:Int))) ((be e b).bind fun c=>(be f b).bind fun d=>cond (!((d.Kind:Int) == c.Kind && d.Text.toList == c.Text.toList)) (some (.out (.out false))) (some (.go (IntKind.i64.wrap (b + 1))))) (some (.out (.go ())))
def jy (b:LK) (c:LK):Option Bool:=cond ((b.length:Int) != (c.length:Int)) (some (false)) ((loop (fun s:Int=>f8 b c s) 0).bind fun r=>Fl.el r (fun s=>mq) (fun y=>some (y)))
theorem um (T:Nat→Prop) (W0:World) (hT:TW T W0) (c:LK) (d:LK) (i:Value) (j:Value) (t:aA ac T W0 i c) (u:aA ac T W0 j d) (y:Bool) (hM:jy c d=some y):aW Tryz.prog No 29 [i,j] W0 (fun v w'=>v = .bool y):=by
 refine en Tryz.func29 Tryz.ntmps29 hT fun a hS=>?_;replace hS:=(hS.fS (aA.dn t)).fS (aA.dn u);unfold jy at hM;refine ah hS fun a hS=>?_;refine az ?_;refine ah hS fun a hS=>?_;rcases cd hM with⟨l,hM⟩|⟨l,hM⟩
 ·exact fz
 refine ah hS fun a hS=>?_;refine aG (J:=fun a w=>St W0 No T 26 [] [] [] a w∧mq=some y) ?_ ?_
 ·skip;refine ah hS fun a hS=>?_;obtain⟨F,r,hMo1⟩:=bd hM;refine bu _ (fun s a w=>∃ (b:Int),b=s∧St W0 No T 26 [(1,j),(12,i),(13,.int .i64 (c.length:Int)),(14,.int .i64 b)] [] [aJ ac j d,aJ ac i c] a w) r ⟨_,rfl,hS.mt [] [0,1]⟩ ?_;rintro s a w C ⟨b,rfl,hS⟩ hM hf1;have hM:f8 c d b=some C:=hM;unfold f8 at hM;refine ah hS fun a hS=>?_;refine az ?_;rcases cd hM with⟨m,hM⟩|⟨m,hM⟩
  ·refine ah hS fun a hS=>?_;refine az ?_;refine ah hS fun a hS=>?_;obtain⟨e,g,hM⟩:=bd hM;refine wl rfl (bc (R:=ac) hS jd dd rfl rfl 1 rfl g rfl fun x E A n a hS=>?_);obtain rfl:=n;refine ah hS fun a hS=>?_;refine ka hS gh fun z D a w hk hS=>?_;refine go hS fun a w hS=>?_;refine az ?_;refine dr [] hS fun w hQ hS=>?_;refine gE [0,1] hS fun a hS=>?_;obtain⟨f,h,hM⟩:=bd hM;obtain⟨k,q,B,o,p,hS⟩:=il (R:=ac) hS jd dd 1 rfl h;obtain rfl:=o;refine dy 2 (v:=pt k q) rfl (by kernel_rfl) (by kernel_rfl) (by kernel_rfl) rfl hQ hS (p rfl rfl) rfl rfl rfl fun a hS=>?_;refine gE [3,4] hS fun a hS=>?_;refine dy 5 (v:=.bool (!((f.Kind:Int) == e.Kind && f.Text.toList == e.Text.toList))) rfl (by kernel_rfl) (by kernel_rfl) (by kernel_rfl) rfl hQ hS (vJ hS rfl rfl) rfl rfl rfl fun a hS=>?_;refine eD ?_;exact fz
  exact fz
 rintro a w ⟨hS,hM⟩;unfold mq at hM;exact fz
def cE (b:Bool):Option Bool:=some (b)
def kS (b:an) (c:an):Option Bool:=cond ((b.Key.Kind:Int) == c.Key.Kind && b.Key.Text.toList == c.Key.Text.toList) (cond (b.Value.toList == c.Value.toList) ((jy b.Reads c.Reads).bind fun d=>cond d (cond ((b.Changed:Int) == c.Changed) (cond ((b.Verified:Int) == c.Verified) (cond ((b.Cost:Int) == c.Cost) (cE (b.Dirty == c.Dirty)) (cE false)) (cE false)) (cE false)) (cE false)) (cE false)) (cE false)
theorem uT (T:Nat→Prop) (W0:World) (hT:TW T W0) (b:an) (c:an) (n:Value) (o:Value) (l:aA ac T W0 n b.Reads) (m:aA ac T W0 o c.Reads) (y:Bool) (hM:kS b c=some y):aW Tryz.prog No 75 [.agg (a6 b n).toArray,.agg (a6 c o).toArray] W0 (fun v w'=>v = .bool y):=by
 refine en Tryz.func75 Tryz.ntmps75 hT fun a hS=>?_;replace hS:=(hS.fS (aA.dn l)).fS (aA.dn m);unfold kS at hM;refine ah hS fun a hS=>?_;refine kb hS fun p r a w hk hS=>?_;refine kb hS fun q s a w hk hS=>?_;refine ah hS fun a hS=>?_;refine aG (J:=fun a w=>∃ (d:Bool),St W0 No T 52 [(4,.bool d)] [] [] a w∧cE d=some y) ?_ ?_
 ·skip;refine ah hS fun a hS=>?_;refine wl rfl (ky (v:=.bool ((b.Key.Kind:Int) == c.Key.Kind && b.Key.Text.toList == c.Key.Text.toList)) hS (wP hS rfl rfl) rfl rfl fun a hS=>?_);refine ah hS fun a hS=>?_;rcases cd hM with⟨h,hM⟩|⟨h,hM⟩
  ·refine ah hS fun a hS=>?_;rcases cd hM with⟨e,hM⟩|⟨e,hM⟩
   ·refine ah hS fun a hS=>?_;obtain⟨t,g,hM⟩:=bd hM;refine wg hS rfl rfl rfl e (a8 hS JT rfl rfl (um _ _ hS.dlt b.Reads c.Reads _ _ (hS.get 1 rfl) (hS.get 0 rfl) _ g) fun _ w hR a hk hA=>?_);obtain rfl:=hR;have hS:=bV hA;refine ah hS fun a hS=>?_;rcases cd hM with⟨i,hM⟩|⟨i,hM⟩
    ·refine ah hS fun a hS=>?_;rcases cd hM with⟨j,hM⟩|⟨j,hM⟩
     ·refine ah hS fun a hS=>?_;rcases cd hM with⟨k,hM⟩|⟨k,hM⟩
      ·refine ah hS fun a hS=>?_;rcases cd hM with⟨f,hM⟩|⟨f,hM⟩
       ·refine ah hS fun a hS=>?_;refine qg hS f (D4 hS rfl rfl Tryz.underlying4 (.inl ⟨rfl,rfl⟩)) fun a hS=>?_;exact fz
       exact fz
      exact fz
     exact fz
    exact fz
   exact fz
  exact fz
 rintro a w ⟨d,hS,hM⟩;unfold cE at hM;exact fz
def pH:Option Bool:=some (true)
def kT (c:LR) (g:LR) (b:Int):Option (Fl (Int) (Fl (Unit) Bool)):=cond (decide ((b:Int) < (c.length:Int))) ((be c b).bind fun d=>(be g b).bind fun e=>(kS d e).bind fun f=>cond (!(f)) (some (.out (.out false))) (some (.go (IntKind.i64.wrap (b + 1))))) (some (.out (.go ())))
def o8 (b:LR) (c:LR):Option Bool:=cond ((b.length:Int) != (c.length:Int)) (some (false)) ((loop (fun s:Int=>kT b c s) 0).bind fun r=>Fl.el r (fun s=>pH) (fun y=>some (y)))
theorem yj (T:Nat→Prop) (W0:World) (hT:TW T W0) (c:LR) (d:LR) (j:Value) (k:Value) (z:aA aa T W0 j c) (A:aA aa T W0 k d) (y:Bool) (hM:o8 c d=some y):aW Tryz.prog No 39 [j,k] W0 (fun v w'=>v = .bool y):=by
 refine en Tryz.func39 Tryz.ntmps39 hT fun a hS=>?_;replace hS:=(hS.fS (aA.dn z)).fS (aA.dn A);unfold o8 at hM;refine ah hS fun a hS=>?_;refine az ?_;refine ah hS fun a hS=>?_;rcases cd hM with⟨o,hM⟩|⟨o,hM⟩
 ·exact fz
 refine ah hS fun a hS=>?_;refine aG (J:=fun a w=>St W0 No T 27 [] [] [] a w∧pH=some y) ?_ ?_
 ·skip;refine ah hS fun a hS=>?_;obtain⟨M,x,hMo1⟩:=bd hM;refine bu _ (fun s a w=>∃ (b:Int),b=s∧St W0 No T 27 [(1,k),(12,j),(13,.int .i64 (c.length:Int)),(14,.int .i64 b)] [] [aJ aa k d,aJ aa j c] a w) x ⟨_,rfl,hS.mt [] [0,1]⟩ ?_;rintro s a w F ⟨b,rfl,hS⟩ hM hf1;have hM:kT c d b=some F:=hM;unfold kT at hM;refine ah hS fun a hS=>?_;refine az ?_;rcases cd hM with⟨p,hM⟩|⟨p,hM⟩
  ·refine ah hS fun a hS=>?_;refine az ?_;refine ah hS fun a hS=>?_;obtain⟨m,e,hM⟩:=bd hM;refine wl rfl (bc (R:=aa) hS n4 k8 rfl rfl 1 rfl e rfl fun B H D q a hS=>?_);obtain⟨K,rfl,h⟩:=q;replace hS:=hS.fS h;refine ah hS fun a hS=>?_;refine ka hS ft fun C G a w hk hS=>?_;refine go hS fun a w hS=>?_;refine az ?_;refine dr [] hS fun w hQ hS=>?_;refine gE [0,1,2] hS fun a hS=>?_;obtain⟨n,f,hM⟩:=bd hM;obtain⟨l,u,E,r,t,hS⟩:=il (R:=aa) hS n4 k8 2 rfl f;obtain⟨L,rfl,i⟩:=r;replace hS:=hS.fS i;refine dy 3 (v:=pt l u) rfl (by kernel_rfl) (by kernel_rfl) (by kernel_rfl) rfl hQ hS (t rfl rfl) rfl rfl rfl fun a hS=>?_;refine gE [4] hS fun a hS=>?_;obtain⟨I,g,hM⟩:=bd hM;refine ec 5 hS Kd (uT _ _ hS.dlt m n _ _ (hS.get 2 rfl) (hS.get 0 rfl) _ g) fun _ w hR a hk hA=>?_;obtain rfl:=hR;have hS:=bV hA;refine gE [6] hS fun a hS=>?_;refine eD ?_;exact fz
  exact fz
 rintro a w ⟨hS,hM⟩;unfold pH at hM;exact fz
def pI:Option Bool:=some (true)
def kU (e:ai) (f:ai) (d:Int):Option (Fl (Int) (Fl (Unit) Bool)):=cond (decide ((d:Int) < (e.Inputs.length:Int))) ((be e.Inputs d).bind fun b=>(be f.Inputs d).bind fun c=>cond (!((c.Key.Kind:Int) == b.Key.Kind && c.Key.Text.toList == b.Key.Text.toList && c.Value.toList == b.Value.toList && (c.Changed:Int) == b.Changed)) (some (.out (.out false))) (some (.go (IntKind.i64.wrap (d + 1))))) (some (.out (.go ())))
def o9 (b:ai) (c:ai):Option Bool:=cond ((b.Revision:Int) != c.Revision) (some (false)) (cond ((b.Inputs.length:Int) != (c.Inputs.length:Int)) (some (false)) ((o8 b.Records c.Records).bind fun d=>cond (!(d)) (some (false)) ((loop (fun s:Int=>kU b c s) 0).bind fun r=>Fl.el r (fun s=>pI) (fun y=>some (y)))))
theorem yk (T:Nat→Prop) (W0:World) (hT:TW T W0) (c:ai) (b:ai) (l:Value) (F:Value) (m:Value) (n:Value) (B:aA ad T W0 l c.Inputs) (C:aA aa T W0 F c.Records) (D:aA ad T W0 m b.Inputs) (E:aA aa T W0 n b.Records) (y:Bool) (hM:o9 c b=some y):aW Tryz.prog No 13 [.agg (aQ c l F).toArray,.agg (aQ b m n).toArray] W0 (fun v w'=>v = .bool y):=by
 refine en Tryz.func13 Tryz.ntmps13 hT fun a hS=>?_;replace hS:=(((hS.fS (aA.dn B)).fS (aA.dn C)).fS (aA.dn D)).fS (aA.dn E);unfold o9 at hM;refine ah hS fun a hS=>?_;refine kb hS fun G N a w hk hS=>?_;refine kb hS fun g O a w hk hS=>?_;refine ah hS fun a hS=>?_;refine az ?_;refine jV ?_;refine ah hS fun a hS=>?_;rcases cd hM with⟨p,hM⟩|⟨p,hM⟩
 ·exact fz
 refine ah hS fun a hS=>?_;rcases cd hM with⟨h,hM⟩|⟨h,hM⟩
 ·exact fz
 refine ah hS fun a hS=>?_;obtain⟨S,k,hM⟩:=bd hM;refine wg hS rfl rfl rfl h (a8 hS JW rfl rfl (yj _ _ hS.dlt c.Records b.Records _ _ (hS.get 2 rfl) (hS.get 0 rfl) _ k) fun _ w hR a hk hA=>?_);obtain rfl:=hR;have hS:=bV hA;refine ah hS fun a hS=>?_;rcases cd hM with⟨q,hM⟩|⟨q,hM⟩
 ·exact fz
 refine ah hS fun a hS=>?_;refine aG (J:=fun a w=>St W0 No T 45 [] [] [] a w∧pI=some y) ?_ ?_
 ·skip;refine ah hS fun a hS=>?_;obtain⟨U,A,hMo1⟩:=bd hM;refine bu _ (fun s a w=>∃ (f:Int),f=s∧St W0 No T 45 [(3,pt g 0),(30,l),(31,.int .i64 (c.Inputs.length:Int)),(32,.int .i64 f)] [.box g (aQ b m n) 31] [aJ ad l c.Inputs,aJ ad m b.Inputs,aJ aa n b.Records] a w) A ⟨_,rfl,hS.mt [0] [3,1,0]⟩ ?_;rintro s a w M ⟨f,rfl,hS⟩ hM hf1;have hM:kU c b f=some M:=hM;unfold kU at hM;refine ah hS fun a hS=>?_;refine az ?_;rcases cd hM with⟨r,hM⟩|⟨r,hM⟩
  ·refine ah hS fun a hS=>?_;refine az ?_;refine ah hS fun a hS=>?_;obtain⟨d,i,hM⟩:=bd hM;refine wl rfl (bc (R:=ad) hS sg rL rfl rfl 0 rfl i rfl fun H Q K t a hS=>?_);obtain rfl:=t;refine ah hS fun a hS=>?_;refine ka hS qV fun I P a w hk hS=>?_;refine go hS fun a w hS=>?_;refine az ?_;refine dr [] hS fun w hQ hS=>?_;refine gE [0,1,2] hS fun a hS=>?_;obtain⟨e,j,hM⟩:=bd hM;obtain⟨o,z,L,u,x,hS⟩:=il (R:=ad) hS sg rL 2 rfl j;obtain rfl:=u;refine dy 3 (v:=pt o z) rfl (by kernel_rfl) (by kernel_rfl) (by kernel_rfl) rfl hQ hS (x rfl rfl) rfl rfl rfl fun a hS=>?_;refine gE [4,5] hS fun a hS=>?_;refine dy 6 (v:=.bool (!((e.Key.Kind:Int) == d.Key.Kind && e.Key.Text.toList == d.Key.Text.toList && e.Value.toList == d.Value.toList && (e.Changed:Int) == d.Changed))) rfl (by kernel_rfl) (by kernel_rfl) (by kernel_rfl) rfl hQ hS (IX hS rfl rfl) rfl rfl rfl fun a hS=>?_;refine eD ?_;exact fz
  exact fz
 rintro a w ⟨hS,hM⟩;unfold pI at hM;exact fz
def cW (b:Int):Option ae:=cond (decide ((b:Int) < 0)) (some ((ae.mk 0 (ByteArray.mk #[])))) (cond (decide ((99:Int) < b)) (some ((ae.mk 0 (ByteArray.mk #[])))) ((uI b).bind fun c=>some ((ae.mk 30 c))))
theorem d9 (T:Nat→Prop) (W0:World) (hT:TW T W0) (hLv:cU T W0) (b:Int) (y:ae) (hM:cW b=some y):aW Tryz.prog No 19 [.int .i64 b] W0 (fun v w'=>v = .agg (aM y).toArray):=by
 refine en Tryz.func19 Tryz.ntmps19 hT fun a hS=>?_;replace hS:=hS.fact bv (cU.dn hLv);unfold cW at hM;refine ah hS fun a hS=>?_;refine ka hS gh fun g h a w hk hS=>?_;refine ah hS fun a hS=>?_;refine az ?_;refine jV ?_;refine ah hS fun a hS=>?_;rcases cd hM with⟨e,hM⟩|⟨e,hM⟩
 ·refine ah hS fun a hS=>?_;refine qy hS (bj (ps:=[]) hS As gh rfl (us:=[]) trivial (ws:=[.int .i64 0,.string (ByteArray.mk #[])]) rfl) fun a hS=>?_;refine go hS fun a w hS=>?_;cases hM
  refine aE hS rfl (rC 0 hS) ?_;exact rfl
 refine ah hS fun a hS=>?_;rcases cd hM with⟨f,hM⟩|⟨f,hM⟩
 ·refine ah hS fun a hS=>?_;refine qy hS (bj (ps:=[]) hS As gh rfl (us:=[]) trivial (ws:=[.int .i64 0,.string (ByteArray.mk #[])]) rfl) fun a hS=>?_;refine go hS fun a w hS=>?_;cases hM
  refine aE hS rfl (rC 0 hS) ?_;exact rfl
 refine ah hS fun a hS=>?_;obtain⟨c,d,hM⟩:=bd hM;refine kc hS Es (u5 _ _ hS.dlt (hS.get 0 rfl) b _ d) fun _ w hR a hk hA=>?_;obtain rfl:=hR;have hS:=bV hA;refine qy hS (bj (ps:=[(0,.const (.int .i64 30)),(1,.tmp 11)]) hS As gh rfl (us:=[[.int .i64 30],[.string c]]) ⟨rfl,⟨rfl,trivial⟩⟩ (ws:=[.int .i64 30,.string c]) rfl) fun a hS=>?_;refine go hS fun a w hS=>?_;cases hM
 refine aE hS rfl (rC 0 hS) ?_;exact rfl
def uf (b:LN):Option aP:=some ((aP.mk b 0))
theorem zp (T:Nat→Prop) (W0:World) (hT:TW T W0) (d:LN) (b:Value) (g:aA (aN.int .i64) T W0 b d) (y:aP) (hM:uf d=some y):aW Tryz.prog No 7 [b] W0 (fun v w'=>∃ (c:Nat) (f:Value),v=pt c 0∧W0.heap.size≤c∧w'.heap[c]? = some (.cells (aZ y f).toArray 64 (0,0))∧aA (aN.int .i64) (dT T [.box c (aZ y f) 64]) w' f y.L):=by
 refine en Tryz.func7 Tryz.ntmps7 hT fun a hS=>?_;replace hS:=hS.fS (aA.dn g);unfold uf at hM;refine ah hS fun a hS=>?_;refine qy hS (bj (ps:=[(0,.tmp 3)]) hS KB KV rfl (us:=[[b]]) ⟨(ik (aA.one ((hS.get 0 rfl):aA (aN.int .i64) _ _ _ _))),trivial⟩ (ws:=[b,.int .i64 0]) rfl) fun a hS=>?_;refine kb hS fun e h a w hk hS=>?_;refine ah hS fun a hS=>?_;cases hM
 refine aE hS rfl (ap hS rfl aD) ?_;exact⟨e,b,rfl,hS.boxNew 0 rfl,hS.boxRow 0 rfl,(aA.up ⟨.inr (List.mem_of_getElem? (i:=0) rfl),trivial⟩ (hS.get 0 rfl))⟩
def rj (c:Int) (b:Int):Option Int:=cond (decide ((b:Int) < 1)) (some (0)) (gd ((b:Int) != 0) <| gd ((b:Int) != 0) <| some (Int.tmod (IntKind.i64.wrap ((Int.tmod c b) + b)) b))
theorem Ao (T:Nat→Prop) (W0:World) (hT:TW T W0) (c:Int) (b:Int) (y:Int) (hM:rj c b=some y):aW Tryz.prog No 18 [.int .i64 c,.int .i64 b] W0 (fun v w'=>v = .int .i64 y):=by
 refine en Tryz.func18 Tryz.ntmps18 hT fun a hS=>?_;unfold rj at hM;refine ah hS fun a hS=>?_;refine az ?_;refine ah hS fun a hS=>?_;rcases cd hM with⟨d,hM⟩|⟨d,hM⟩
 ·exact fz
 refine ah hS fun a hS=>?_;obtain⟨e,hM⟩:=aS hM;refine qy hS (xI hS rfl rfl (bne_iff_ne.1 e)) fun a hS=>?_;refine ah hS fun a hS=>?_;obtain⟨f,hM⟩:=aS hM;refine qy hS (xI hS rfl rfl (bne_iff_ne.1 f)) fun a hS=>?_;exact fz
def bF (b:aP) (e:Int):Option (Int×aP):=cond (decide ((b.L.length:Int)≤b.At)) (some ((0,b))) ((be b.L (IntKind.i64.wrap ((IntKind.i64.wrap (b.At + 1)) - 1))).bind fun c=>(rj c e).bind fun d=>some ((d,(aP.mk b.L (IntKind.i64.wrap (b.At + 1))))))
theorem bh (T:Nat→Prop) (W0:World) (hT:TW T W0) (d:aP) (e:Int) (f:Value) (b:Nat) (m:W0.heap[b]? = some (.cells (aZ d f).toArray 64 (0,0))) (q:¬ T b) (t:aA (aN.int .i64) (dT T [.box b (aZ d f) 64]) W0 f d.L) (y:Int×aP) (hM:bF d e=some y):aW Tryz.prog (fun k=>k=b) 34 [pt b 0,.int .i64 e] W0 (fun v w'=>∃ (s:Value),v = .int .i64 y.1∧w'.heap[b]? = some (.cells (aZ y.2 s).toArray 64 (0,0))∧aA (aN.int .i64) (dT T [.box b (aZ y.2 s) 64]) w' s y.2.L):=by
 refine pB (c:=_) Tryz.func34 rfl T 35 Tryz.ntmps34 hT rfl m q fun a hS=>?_;replace hS:=hS.fS t;unfold bF at hM;refine ah hS fun a hS=>?_;refine az ?_;refine az ?_;refine dr [] hS fun w hQ hS=>?_;refine gE [0,1,2,3,4,5,6,7,8,9] hS fun a hS=>?_;refine eD ?_;refine ah hS fun a hS=>?_;rcases cd hM with⟨n,hM⟩|⟨n,hM⟩
 ·refine ah hS fun a hS=>?_;cases hM
  refine aE hS rfl (ap hS rfl aD) ?_;exact⟨f,rfl,hS.boxRow 0 rfl,(aA.up ⟨.inr (List.mem_of_getElem? (i:=0) rfl),trivial⟩ (hS.get 0 rfl))⟩
 refine go hS fun a w hS=>?_;refine az ?_;refine dr [] hS fun w hQ hS=>?_;refine gE [0,1,2,3,4,5,6,7,8] hS fun a hS=>?_;obtain⟨l,g,hM⟩:=bd hM;obtain⟨j,r,u,o,p,hS⟩:=il (R:=(aN.int .i64)) hS Ck yu 0 rfl g;obtain rfl:=o;refine dy 9 (v:=pt j r) rfl (by kernel_rfl) (by kernel_rfl) (by kernel_rfl) rfl hQ hS (p rfl rfl) rfl rfl rfl fun a hS=>?_;refine gE [10,11] hS fun a hS=>?_;obtain⟨x,h,hM⟩:=bd hM;refine ec 12 hS JR (Ao _ _ hS.dlt l e _ h) fun _ w hR a hk hA=>?_;obtain rfl:=hR;have hS:=bV hA;refine gE [13] hS fun a hS=>?_;refine eD ?_;refine ah hS fun a hS=>?_;cases hM
 refine aE hS rfl (ap hS rfl aD) ?_;exact⟨f,rfl,hS.boxRow 0 rfl,(aA.up ⟨.inr (List.mem_of_getElem? (i:=0) rfl),trivial⟩ (hS.get 1 rfl))⟩
def oB (e:aP) (c:LY):Option (ByteArray×aP):=(bF e (c.length:Int)).bind fun b=>(be c b.1).bind fun d=>some ((d,(aP.mk b.2.L b.2.At)))
theorem uG (T:Nat→Prop) (W0:World) (hT:TW T W0) (b:aP) (f:LY) (l:Value) (t:Value) (d:Nat) (q:W0.heap[d]? = some (.cells (aZ b l).toArray 64 (0,0))) (n:¬ T d) (r:aA (aN.int .i64) (dT T [.box d (aZ b l) 64]) W0 l b.L) (s:aA aN.str (dT T [.box d (aZ b l) 64]) W0 t f) (y:ByteArray×aP) (hM:oB b f=some y):aW Tryz.prog (fun k=>k=d) 17 [pt d 0,t] W0 (fun v w'=>∃ (p:Value),v = .string y.1∧w'.heap[d]? = some (.cells (aZ y.2 p).toArray 64 (0,0))∧aA (aN.int .i64) (dT T [.box d (aZ y.2 p) 64]) w' p y.2.L):=by
 refine pB (c:=_) Tryz.func17 rfl T 12 Tryz.ntmps17 hT rfl q n fun a hS=>?_;replace hS:=(hS.fS r).fS s;unfold oB at hM;refine ah hS fun a hS=>?_;obtain⟨o,j,hM⟩:=bd hM;refine wl rfl (bS hS lA rfl rfl 0 rfl (bh _ _ (hS.drop 0).dlt b (f.length:Int) _ _ (hS.boxRow 0 rfl) (hS.notin 0 rfl) (aA.lent (i:=0) rfl (hS.get 1 rfl)) _ j) fun _ w hR hk=>?_);obtain⟨g,he,hrow,e⟩:=hR;obtain rfl:=he.symm;refine⟨(aZ o.2 g),hrow,fun a hS=>?_⟩;replace hS:=hS.fS (aA.back (i:=0) rfl e);obtain⟨z,h,hM⟩:=bd hM;refine wl rfl (bc (R:=aN.str) hS DP Fq rfl rfl 1 rfl h rfl fun u A x m a hS=>?_);obtain rfl:=m;refine ah hS fun a hS=>?_;cases hM
 refine aE hS rfl (ap hS rfl aD) ?_;exact⟨g,rfl,hS.boxRow 0 rfl,(aA.up ⟨.inr (List.mem_of_getElem? (i:=0) rfl),trivial⟩ (hS.get 1 rfl))⟩
def nK (e:aP):Option (aq×aP):=(bF e 4).bind fun b=>(cW b.1).bind fun d=>(oB (aP.mk b.2.L b.2.At) ([(ByteArray.mk #[48]),(ByteArray.mk #[49]),(ByteArray.mk #[50]),(ByteArray.mk #[51]),(ByteArray.mk #[55]),(ByteArray.mk #[49,48,48]),(ByteArray.mk #[]),(ByteArray.mk #[120]),(ByteArray.mk #[49,54]),(ByteArray.mk #[49])])).bind fun c=>some (((aq.mk d c.1),(aP.mk c.2.L c.2.At)))
theorem wQ (T:Nat→Prop) (W0:World) (hT:TW T W0) (d:aP) (q:Value) (b:Nat) (m:W0.heap[b]? = some (.cells (aZ d q).toArray 64 (0,0))) (r:¬ T b) (u:aA (aN.int .i64) (dT T [.box b (aZ d q) 64]) W0 q d.L) (hLv:cU (dT T [.box b (aZ d q) 64]) W0) (y:aq×aP) (hM:nK d=some y):aW Tryz.prog (fun k=>k=b) 54 [pt b 0] W0 (fun v w'=>∃ (t:Value),v = .agg (eU y.1).toArray∧w'.heap[b]? = some (.cells (aZ y.2 t).toArray 64 (0,0))∧aA (aN.int .i64) (dT T [.box b (aZ y.2 t) 64]) w' t y.2.L):=by
 refine pB (c:=_) Tryz.func54 rfl T 10 Tryz.ntmps54 hT rfl m r fun a hS=>?_;replace hS:=(hS.fact bv hLv).fS u;unfold nK at hM;refine ah hS fun a hS=>?_;refine ka hS k9 fun z B a w hk hS=>?_;refine ah hS fun a hS=>?_;obtain⟨e,n,hM⟩:=bd hM;refine wl rfl (bS hS lA rfl rfl 1 rfl (bh _ _ (hS.drop 1).dlt d 4 _ _ (hS.boxRow 1 rfl) (hS.notin 1 rfl) (aA.lent (i:=1) rfl (hS.get 0 rfl)) _ n) fun _ w hR hk=>?_);obtain⟨s,he,hrow,h⟩:=hR;obtain rfl:=he.symm;refine⟨(aZ e.2 s),hrow,fun a hS=>?_⟩;replace hS:=hS.fS (aA.back (i:=1) rfl h);obtain⟨f,o,hM⟩:=bd hM;refine kc hS wK (d9 _ _ hS.dlt (hS.get 2 rfl) e.1 _ o) fun _ w hR a hk hA=>?_;obtain rfl:=hR;have hS:=bV hA;refine ah hS fun a hS=>?_;refine wl rfl (aT (ps:=[(0,.const (.string ⟨#[48]⟩)),(1,.const (.string ⟨#[49]⟩)),(2,.const (.string ⟨#[50]⟩)),(3,.const (.string ⟨#[51]⟩)),(4,.const (.string ⟨#[55]⟩)),(5,.const (.string ⟨#[49,48,48]⟩)),(6,.const (.string ⟨#[]⟩)),(7,.const (.string ⟨#[120]⟩)),(8,.const (.string ⟨#[49,54]⟩)),(9,.const (.string ⟨#[49]⟩))]) hS uQ H0 (zl:=[.string (ByteArray.mk #[]),.string (ByteArray.mk #[]),.string (ByteArray.mk #[]),.string (ByteArray.mk #[]),.string (ByteArray.mk #[]),.string (ByteArray.mk #[]),.string (ByteArray.mk #[]),.string (ByteArray.mk #[]),.string (ByteArray.mk #[]),.string (ByteArray.mk #[])]) (by kernel_rfl) rfl (us:=[[.string (ByteArray.mk #[48])],[.string (ByteArray.mk #[49])],[.string (ByteArray.mk #[50])],[.string (ByteArray.mk #[51])],[.string (ByteArray.mk #[55])],[.string (ByteArray.mk #[49,48,48])],[.string (ByteArray.mk #[])],[.string (ByteArray.mk #[120])],[.string (ByteArray.mk #[49,54])],[.string (ByteArray.mk #[49])]]) ⟨rfl,⟨rfl,⟨rfl,⟨rfl,⟨rfl,⟨rfl,⟨rfl,⟨rfl,⟨rfl,⟨rfl,trivial⟩⟩⟩⟩⟩⟩⟩⟩⟩⟩ (ws:=[.string (ByteArray.mk #[48]),.string (ByteArray.mk #[49]),.string (ByteArray.mk #[50]),.string (ByteArray.mk #[51]),.string (ByteArray.mk #[55]),.string (ByteArray.mk #[49,48,48]),.string (ByteArray.mk #[]),.string (ByteArray.mk #[120]),.string (ByteArray.mk #[49,54]),.string (ByteArray.mk #[49])]) rfl rfl rfl rfl fun A a w hk hS=>?_);replace hS:=(hS.lit (R:=aN.str) (us:=[.string (ByteArray.mk #[48]),.string (ByteArray.mk #[49]),.string (ByteArray.mk #[50]),.string (ByteArray.mk #[51]),.string (ByteArray.mk #[55]),.string (ByteArray.mk #[49,48,48]),.string (ByteArray.mk #[]),.string (ByteArray.mk #[120]),.string (ByteArray.mk #[49,54]),.string (ByteArray.mk #[49])]) (xs:=[(ByteArray.mk #[48]),(ByteArray.mk #[49]),(ByteArray.mk #[50]),(ByteArray.mk #[51]),(ByteArray.mk #[55]),(ByteArray.mk #[49,48,48]),(ByteArray.mk #[]),(ByteArray.mk #[120]),(ByteArray.mk #[49,54]),(ByteArray.mk #[49])]) 0 rfl (by decide) ((aB.one_ (R:=aN.str) (x:=(ByteArray.mk #[48])) rfl).append ((aB.one_ (R:=aN.str) (x:=(ByteArray.mk #[49])) rfl).append ((aB.one_ (R:=aN.str) (x:=(ByteArray.mk #[50])) rfl).append ((aB.one_ (R:=aN.str) (x:=(ByteArray.mk #[51])) rfl).append ((aB.one_ (R:=aN.str) (x:=(ByteArray.mk #[55])) rfl).append ((aB.one_ (R:=aN.str) (x:=(ByteArray.mk #[49,48,48])) rfl).append ((aB.one_ (R:=aN.str) (x:=(ByteArray.mk #[])) rfl).append ((aB.one_ (R:=aN.str) (x:=(ByteArray.mk #[120])) rfl).append ((aB.one_ (R:=aN.str) (x:=(ByteArray.mk #[49,54])) rfl).append (aB.one_ (R:=aN.str) (x:=(ByteArray.mk #[49])) rfl)))))))))) rfl rfl).freeze (R:=aN.str) 0 rfl 0 rfl;obtain⟨g,p,hM⟩:=bd hM;refine wl rfl (bS hS IC rfl rfl 1 rfl (uG _ _ (hS.drop 1).dlt (aP.mk e.2.L e.2.At) ([(ByteArray.mk #[48]),(ByteArray.mk #[49]),(ByteArray.mk #[50]),(ByteArray.mk #[51]),(ByteArray.mk #[55]),(ByteArray.mk #[49,48,48]),(ByteArray.mk #[]),(ByteArray.mk #[120]),(ByteArray.mk #[49,54]),(ByteArray.mk #[49])]) _ _ _ (hS.boxRow 1 rfl) (hS.notin 1 rfl) (aA.lent (i:=1) rfl (hS.get 2 rfl)) (aA.lent (i:=1) rfl (hS.get 0 rfl)) _ p) fun _ w hR hk=>?_);obtain⟨l,he,hrow,j⟩:=hR;obtain rfl:=he.symm;refine⟨(aZ g.2 l),hrow,fun a hS=>?_⟩;replace hS:=hS.fS (aA.back (i:=1) rfl j);refine qy hS (bj (ps:=[(0,.tmp 5),(1,.tmp 8)]) hS vX k9 rfl (us:=[(aM f),[.string g.1]]) ⟨rfl,⟨rfl,trivial⟩⟩ (ws:=[.int .i64 f.Kind,.string f.Text,.string g.1]) rfl) fun a hS=>?_;refine go hS fun a w hS=>?_;cases hM
 refine aE hS rfl (rC 0 hS) ?_;exact⟨l,rfl,hS.boxRow 1 rfl,(aA.up ⟨.inr (List.mem_of_getElem? (i:=1) rfl),trivial⟩ (hS.get 0 rfl))⟩
def lc (d:LC) (b:LN) (c:Int):Option (LC×aP):=some ((d,(aP.mk b c)))
def ld (c:LC) (f:Int) (d:LN) (e:Int):Option (Fl (LC×Int×LN×Int) (LC×LN×Int)):=cond (decide ((0:Int) < f)) ((nK (aP.mk d e)).bind fun b=>gd (br (c.length + ([(aq.mk (ae.mk b.1.Key.Kind b.1.Key.Text) b.1.Value)]).length)) <| some (.go ((c ++ ([(aq.mk (ae.mk b.1.Key.Kind b.1.Key.Text) b.1.Value)])),IntKind.i64.wrap (f - 1),b.2.L,b.2.At))) (some (.out (c,d,e)))
def jY (d:aP) (c:Int):Option (LC×aP):=(bF d (IntKind.i64.wrap (c + 1))).bind fun b=>(loop (fun s:LC×Int×LN×Int=>ld s.1 s.2.1 s.2.2.1 s.2.2.2) (([]:List aq),b.1,b.2.L,b.2.At)).bind fun r=>lc r.1 r.2.1 r.2.2
theorem ri (T:Nat→Prop) (W0:World) (hT:TW T W0) (h:aP) (m:Int) (E:Value) (d:Nat) (P:W0.heap[d]? = some (.cells (aZ h E).toArray 64 (0,0))) (K:¬ T d) (S:aA (aN.int .i64) (dT T [.box d (aZ h E) 64]) W0 E h.L) (hLv:cU (dT T [.box d (aZ h E) 64]) W0) (y:LC×aP) (hM:jY h m=some y):aW Tryz.prog (fun k=>k=d) 32 [pt d 0,.int .i64 m] W0 (fun v w'=>∃ (F:Value) (qT:List Value) (G:Value),v=F∧fu aj T W0 w' [bn F qT,.box d (aZ y.2 G) 64] 46 F qT y.1∧w'.heap[d]? = some (.cells (aZ y.2 G).toArray 64 (0,0))∧aA (aN.int .i64) (dT T [bn F qT,.box d (aZ y.2 G) 64]) w' G y.2.L):=by
 refine pB (c:=_) Tryz.func32 rfl T 21 Tryz.ntmps32 hT rfl P K fun a hS=>?_;replace hS:=(hS.fact bv hLv).fS S;unfold jY at hM;refine ah hS fun a hS=>?_;refine aG (J:=fun a w=>∃ (t:LC) (q:LN) (r:Int) (n:Value) (j:LV) (o:Value),St W0 (fun k=>k=d) T 21 [(5,n)] [bn n j,.box d [o,.int .i64 r] 64] [am aj j t,aJ (aN.int .i64) o q,bv] a w∧lc t q r=some y) ?_ ?_
 ·skip;refine ah hS fun a hS=>?_;obtain⟨M,D,hM⟩:=bd hM;refine wl rfl (bS hS lA rfl rfl 0 rfl (bh _ _ (hS.drop 0).dlt h (IntKind.i64.wrap (m + 1)) _ _ (hS.boxRow 0 rfl) (hS.notin 0 rfl) (aA.lent (i:=0) rfl (hS.get 0 rfl)) _ D) fun _ w hR hk=>?_);obtain⟨N,he,hrow,A⟩:=hR;obtain rfl:=he.symm;refine⟨(aZ M.2 N),hrow,fun a hS=>?_⟩;replace hS:=hS.fS (aA.back (i:=0) rfl A);refine ah hS fun a hS=>?_;replace hS:=hS.nilRow aj 46 (by decide);obtain⟨Y,Q,hMo1⟩:=bd hM;refine bu _ (fun s a w=>∃ (g:LC) (l:Int) (e:LN) (f:Int) (u:Value) (p:LV) (z:Value),(g,l,e,f)=s∧St W0 (fun k=>k=d) T 21 [(0,pt d 0),(5,u),(6,.int .i64 l)] [bn u p,.box d [z,.int .i64 f] 64] [am aj p g,aJ (aN.int .i64) z e,bv] a w) Q ⟨_,_,_,_,_,_,_,rfl,hS.mt [0,1] [0,1,3]⟩ ?_;rintro s a w W ⟨g,l,e,f,u,p,z,rfl,hS⟩ hM hf1;have hM:ld g l e f=some W:=hM;unfold ld at hM;refine az ?_;refine ah hS fun a hS=>?_;rcases cd hM with⟨H,hM⟩|⟨H,hM⟩
  ·refine ah hS fun a hS=>?_;refine az ?_;refine ah hS fun a hS=>?_;obtain⟨b,C,hM⟩:=bd hM;refine wl rfl (bS hS JY rfl rfl 1 rfl (wQ _ _ (hS.drop 1).dlt (aP.mk e f) _ _ (hS.boxRow 1 rfl) (hS.notin 1 rfl) (aA.lent (i:=1) rfl (hS.get 1 rfl)) (bv.keep (hS.get 2 rfl) (Kt.refl _ _) (fun k hk=>.inl ((pY (i:=1) rfl k).1 hk))) _ C) fun _ w hR hk=>?_);obtain⟨O,he,hrow,B⟩:=hR;obtain rfl:=he.symm;refine⟨(aZ b.2 O),hrow,fun a hS=>?_⟩;replace hS:=hS.fS (aA.back (i:=1) rfl B);refine wl rfl (aT (ps:=[(0,.tmp 17)]) hS tj k9 (zl:=[.int .i64 0,.string (ByteArray.mk #[]),.string (ByteArray.mk #[])]) (by kernel_rfl) rfl (us:=[(eU b.1)]) ⟨rfl,trivial⟩ (ws:=(eU b.1)) rfl rfl rfl rfl fun U a w hk hS=>?_);replace hS:=(hS.lit (R:=aj) (us:=(eU b.1)) (xs:=[(aq.mk (ae.mk b.1.Key.Kind b.1.Key.Text) b.1.Value)]) 0 rfl (by decide) (aB.one_ (R:=aj) (x:=(aq.mk (ae.mk b.1.Key.Kind b.1.Key.Text) b.1.Value)) rfl) rfl rfl).freeze (R:=aj) 0 rfl 0 rfl;obtain⟨I,hM⟩:=aS hM;refine wl rfl (bw (R:=aj) (xs:=g) (ys:=[(aq.mk (ae.mk b.1.Key.Kind b.1.Key.Text) b.1.Value)]) hS tj (by decide) (by decide) rfl rfl 0 rfl 3 rfl 0 rfl I rfl fun X V a w hk hS=>?_);exact fz
  refine ah hS fun a hS=>?_;cases hM
  have hr:=hf1 _ rfl;subst hr;have hM:lc g e f=some y:=hMo1;exact⟨_,_,_,_,_,_,hS.mt [0,1] [0,1,2],hM⟩
 rintro a w ⟨t,q,r,n,j,o,hS,hM⟩;unfold lc at hM;refine ah hS fun a hS=>?_;cases hM
 refine aE hS rfl (ap hS rfl aD) ?_;exact⟨n,j,o,rfl,hS.retOwnm ⟨.inr (List.mem_of_getElem? (i:=0) rfl),⟨.inr (List.mem_of_getElem? (i:=1) rfl),trivial⟩⟩ 0 rfl 0 rfl 1 rfl (by decide),hS.boxRow 1 rfl,(aA.up ⟨.inr (List.mem_of_getElem? (i:=0) rfl),⟨.inr (List.mem_of_getElem? (i:=1) rfl),trivial⟩⟩ (hS.get 1 rfl))⟩
def jA (b:Int) (c:Int):Option (Int×Int):=some ((b,c))
def ef (c:LU) (f:Int) (b:Int):Option (Fl (Int) (Int)):=(be c f).bind fun d=>cond d.Ring (cond (decide ((b:Int) < (c.length:Int))) ((be c b).bind fun e=>cond e.Ring (some (.go (IntKind.i64.wrap (b + 1)))) (some (.out b))) (some (.out b))) (some (.out b))
def jB (b:LU) (c:Int) (d:Int):Option (Int×Int):=(loop (fun s:Int=>ef b c s) (IntKind.i64.wrap (c + 1))).bind fun r=>jA d r
def eh (c:LU) (f:Int) (b:Int):Option (Fl (Int) (Int)):=(be c f).bind fun d=>cond d.Ring (cond (decide ((0:Int) < b)) ((be c (IntKind.i64.wrap (b - 1))).bind fun e=>cond e.Ring (some (.go (IntKind.i64.wrap (b - 1)))) (some (.out b))) (some (.out b))) (some (.out b))
def lR (b:LU) (c:Int):Option (Int×Int):=cond (decide ((c:Int) < 0)) (some ((0,0))) (cond (decide ((b.length:Int)≤c)) (some ((0,0))) ((loop (fun s:Int=>eh b c s) c).bind fun r=>jB b c r))
theorem sA (T:Nat→Prop) (W0:World) (hT:TW T W0) (b:LU) (c:Int) (g:Value) (G:aA ay T W0 g b) (y:Int×Int) (hM:lR b c=some y):aW Tryz.prog No 53 [g,.int .i64 c] W0 (fun v w'=>v = .tuple #[.int .i64 y.1,.int .i64 y.2]):=by
 refine en Tryz.func53 Tryz.ntmps53 hT fun a hS=>?_;replace hS:=hS.fS (aA.dn G);unfold lR at hM;refine ah hS fun a hS=>?_;refine az ?_;refine jV ?_;refine ah hS fun a hS=>?_;rcases cd hM with⟨x,hM⟩|⟨x,hM⟩
 ·refine ah hS fun a hS=>?_;cases hM
  refine aE hS Tryz.results53 (ap hS rfl (ap hS rfl aD)) ?_;exact rfl
 refine ah hS fun a hS=>?_;rcases cd hM with⟨z,hM⟩|⟨z,hM⟩
 ·refine ah hS fun a hS=>?_;cases hM
  refine aE hS Tryz.results53 (ap hS rfl (ap hS rfl aD)) ?_;exact rfl
 refine ah hS fun a hS=>?_;refine aG (J:=fun a w=>∃ (d:Int),St W0 No T 60 [(0,g),(1,.int .i64 c),(6,.int .i64 d),(7,.int .i64 (IntKind.i64.wrap (c + 1)))] [] [aJ ay g b] a w∧jB b c d=some y) ?_ ?_
 ·skip;refine ah hS fun a hS=>?_;obtain⟨r1,k,hMo1⟩:=bd hM;refine bu _ (fun s a w=>∃ (e:Int),e=s∧St W0 No T 60 [(0,g),(1,.int .i64 c),(6,.int .i64 e),(7,.int .i64 (IntKind.i64.wrap (c + 1)))] [] [aJ ay g b] a w) k ⟨_,rfl,hS.mt [] [0]⟩ ?_;rintro s a w u ⟨e,rfl,hS⟩ hM hf1;have hM:eh b c e=some u:=hM;unfold eh at hM;refine az ?_;refine jV ?_;refine ah hS fun a hS=>?_;obtain⟨U,n,hM⟩:=bd hM;refine wl rfl (bc (R:=ay) hS uq tO rfl rfl 0 rfl n rfl fun H W M A a hS=>?_);obtain⟨a1,rfl,p⟩:=A;replace hS:=hS.fS p;refine ah hS fun a hS=>?_;rcases cd hM with⟨B,hM⟩|⟨B,hM⟩
  ·refine ah hS fun a hS=>?_;rcases cd hM with⟨i,hM⟩|⟨i,hM⟩
   ·refine ah hS fun a hS=>?_;obtain⟨V,o,hM⟩:=bd hM;refine wg hS rfl rfl rfl i (bc (R:=ay) hS uq tO rfl rfl 2 rfl o rfl fun I X N C a hS=>?_);obtain⟨a2,rfl,q⟩:=C;replace hS:=hS.fS q;exact fz
   exact fz
  exact fz
 rintro a w ⟨d,hS,hM⟩;unfold jB at hM;refine aG (J:=fun a w=>∃ (h:Int),St W0 No T 60 [(6,.int .i64 d),(7,.int .i64 h)] [] [] a w∧jA d h=some y) ?_ ?_
 ·skip;refine ah hS fun a hS=>?_;obtain⟨r1,k,hMo1⟩:=bd hM;refine bu _ (fun s a w=>∃ (f:Int),f=s∧St W0 No T 60 [(0,g),(1,.int .i64 c),(6,.int .i64 d),(7,.int .i64 f)] [] [aJ ay g b] a w) k ⟨_,rfl,hS.mt [] [0]⟩ ?_;rintro s a w u ⟨f,rfl,hS⟩ hM hf1;have hM:ef b c f=some u:=hM;unfold ef at hM;refine az ?_;refine jV ?_;refine ah hS fun a hS=>?_;obtain⟨Q,l,hM⟩:=bd hM;refine wl rfl (bc (R:=ay) hS uq tO rfl rfl 0 rfl l rfl fun K Y O D a hS=>?_);obtain⟨a3,rfl,r⟩:=D;replace hS:=hS.fS r;refine ah hS fun a hS=>?_;rcases cd hM with⟨E,hM⟩|⟨E,hM⟩
  ·refine ah hS fun a hS=>?_;rcases cd hM with⟨j,hM⟩|⟨j,hM⟩
   ·refine ah hS fun a hS=>?_;obtain⟨S,m,hM⟩:=bd hM;refine wg hS rfl rfl rfl j (bc (R:=ay) hS uq tO rfl rfl 2 rfl m rfl fun L Z P F a hS=>?_);obtain⟨a4,rfl,t⟩:=F;replace hS:=hS.fS t;exact fz
   exact fz
  exact fz
 rintro a w ⟨h,hS,hM⟩;unfold jA at hM;refine ah hS fun a hS=>?_;cases hM
 refine aE hS Tryz.results53 (ap hS rfl (ap hS rfl aD)) ?_;exact rfl
def kM (d:LU) (b:LN) (c:Int):Option (LU×aP):=some ((d,(aP.mk b c)))
def nx (d:Int) (e:LU) (b:LN) (c:Int):Option (Fl (LU×Int×LN×Int) (LU×LN×Int)):=some (.go (e,IntKind.i64.wrap (d + 1),b,c))
def kN (c:LU) (b:Int) (f:Bool) (g:Int) (h:Int) (d:LN) (e:Int) (i:(List cF)):Option (Fl (LU×Int×LN×Int) (LU×LN×Int)):=(be c b).bind fun j=>nx b (c.set (Int.toNat b) (aK.mk f i g h)) d e
def ny (d:Int) (b:LN) (c:Int) (e:(List cF)):Option (Fl (Int×LN×Int×(List cF)) (LN×Int×(List cF))):=some (.go (IntKind.i64.wrap (d - 1),b,c,e))
def iR (i:Int) (b:(List cF)) (c:Bool) (d:Int) (g:LN) (h:Int) (e:Bool) (f:Int):Option (Fl (Int×LN×Int×(List cF)) (LN×Int×(List cF))):=gd (br (b.length + ([(cF.mk c e d f)]).length)) <| ny i g h (b ++ ([(cF.mk c e d f)]))
def gr (e:Int) (f:(List cF)) (g:Bool) (j:Int) (h:Int) (i:Bool) (c:LN) (d:Int):Option (Fl (Int×LN×Int×(List cF)) (LN×Int×(List cF))):=cond i ((bF (aP.mk c d) j).bind fun b=>iR e f g h b.2.L b.2.At true b.1) (iR e f g h c d false 0)
def iS (j:Bool) (e:Int) (b:(List cF)) (h:Bool) (f:Int) (c:LN) (d:Int) (i:Int):Option (Fl (Int×LN×Int×(List cF)) (LN×Int×(List cF))):=cond (!(j)) (cond (decide ((0:Int) < (b.length:Int))) ((bF (aP.mk c d) 3).bind fun g=>gr e b h f i ((g.1:Int) == 1) g.2.L g.2.At) (gr e b h f i false c d)) (gr e b h f i false c d)
def iT (g:Bool) (f:Int) (h:(List cF)) (i:Bool) (b:Int) (k:(Int×aP)) (j:Bool) (d:LN) (e:Int):Option (Fl (Int×LN×Int×(List cF)) (LN×Int×(List cF))):=cond j ((bF (aP.mk d e) (min b 3)).bind fun c=>iS g f h i b c.2.L c.2.At (IntKind.i64.wrap ((IntKind.i64.wrap (b - 1)) - c.1))) (iS g f h i b d e k.1)
def iU (g:Bool) (f:Int) (h:(List cF)) (i:LN) (j:Int) (e:Bool) (c:Int):Option (Fl (Int×LN×Int×(List cF)) (LN×Int×(List cF))):=(bF (aP.mk i j) c).bind fun b=>cond (!(e)) ((bF (aP.mk b.2.L b.2.At) 2).bind fun d=>iT g f h e c b ((d.1:Int) == 0) d.2.L d.2.At) (iT g f h e c b false b.2.L b.2.At)
def gK (h:Int) (f:Bool) (e:Int) (g:(List cF)) (c:LN) (d:Int) (b:Bool):Option (Fl (Int×LN×Int×(List cF)) (LN×Int×(List cF))):=cond b (iU f e g c d b 4) (iU f e g c d b h)
def gN (c:Int) (h:Bool) (d:Int) (f:LN) (g:Int) (e:(List cF)):Option (Fl (Int×LN×Int×(List cF)) (LN×Int×(List cF))):=cond (decide ((0:Int) < d)) ((bF (aP.mk f g) 3).bind fun b=>cond ((b.1:Int) == 0) (gK c h d e b.2.L b.2.At true) (gK c h d e b.2.L b.2.At ((c:Int) == 0))) (some (.out (f,g,e)))
def gL (h:LU) (g:Int) (d:Int) (c:Bool) (e:LN) (f:Int) (i:Int) (j:Int):Option (Fl (LU×Int×LN×Int) (LU×LN×Int)):=(bF (aP.mk e f) 4).bind fun b=>(loop (fun s:Int×LN×Int×(List cF)=>gN d c s.1 s.2.1 s.2.2.1 s.2.2.2) (b.1,b.2.L,b.2.At,([]:List cF))).bind fun r=>kN h g c i j r.1 r.2.1 r.2.2
def ml (h:LU) (g:Int) (d:Int) (e:LN) (f:Int) (b:Bool) (j:Int) (k:Int):Option (Fl (LU×Int×LN×Int) (LU×LN×Int)):=cond b ((bF (aP.mk e f) 6).bind fun c=>(be ([0,1,2,4,8,16]) c.1).bind fun i=>gL h g d b c.2.L c.2.At 5 i) (gL h g d b e f j k)
def gM (e:LU) (d:Int) (g:LN) (h:Int) (f:Int):Option (Fl (LU×Int×LN×Int) (LU×LN×Int)):=(be e d).bind fun i=>(bF (aP.mk g h) 4).bind fun b=>(bF (aP.mk b.2.L b.2.At) 6).bind fun c=>ml e d f c.2.L c.2.At i.Ring (IntKind.i64.wrap (1 + b.1)) c.1
def gO (h:LU) (c:LU) (b:Int) (d:LN) (e:Int):Option (Fl (LU×Int×LN×Int) (LU×LN×Int)):=cond (decide ((b:Int) < (h.length:Int))) ((lR c b).bind fun f=>(be c b).bind fun g=>cond (!(g.Ring)) (gM c b d e f.1) (gM c b d e f.2)) (some (.out (c,d,e)))
def ju (b:LU) (c:LN) (d:Int):Option (LU×aP):=(loop (fun s:LU×Int×LN×Int=>gO b s.1 s.2.1 s.2.2.1 s.2.2.2) (b,0,c,d)).bind fun r=>kM r.1 r.2.1 r.2.2
def mm (c:LU) (f:Int) (d:LN) (e:Int):Option (Fl (LU×Int×LN×Int) (LU×LN×Int)):=cond (decide ((0:Int) < f)) ((bF (aP.mk d e) 3).bind fun b=>gd (br (c.length + ([(aK.mk ((b.1:Int) == 1) ([]) 0 0)]).length)) <| some (.go ((c ++ ([(aK.mk ((b.1:Int) == 1) ([]) 0 0)])),IntKind.i64.wrap (f - 1),b.2.L,b.2.At))) (some (.out (c,d,e)))
def o0 (c:aP):Option (LU×aP):=(bF c 7).bind fun b=>(loop (fun s:LU×Int×LN×Int=>mm s.1 s.2.1 s.2.2.1 s.2.2.2) (([]:List aK),IntKind.i64.wrap (2 + b.1),b.2.L,b.2.At)).bind fun r=>ju r.1 r.2.1 r.2.2
theorem ye (T:Nat→Prop) (W0:World) (hT:TW T W0) (bs:aP) (v2:Value) (e:Nat) (l2:W0.heap[e]? = some (.cells (aZ bs v2).toArray 64 (0,0))) (i0:¬ T e) (lb:aA (aN.int .i64) (dT T [.box e (aZ bs v2) 64]) W0 v2 bs.L) (y:LU×aP) (hM:o0 bs=some y):aW Tryz.prog (fun k=>k=e) 30 [pt e 0] W0 (fun v w'=>∃ (v3:Value) (qT:List Value) (v5:Value),v=v3∧fu ay T W0 w' [bJ v3 qT,.box e (aZ y.2 v5) 64] 89 v3 qT y.1∧w'.heap[e]? = some (.cells (aZ y.2 v5).toArray 64 (0,0))∧aA (aN.int .i64) (dT T [bJ v3 qT,.box e (aZ y.2 v5) 64]) w' v5 y.2.L):=by
 refine pB (c:=_) Tryz.func30 rfl T 132 Tryz.ntmps30 hT rfl l2 i0 fun a hS=>?_;replace hS:=hS.fS lb;unfold o0 at hM;refine ah hS fun a hS=>?_;refine aG (J:=fun a w=>∃ (q:LU) (d1:LN) (d2:Int) (d:Value) (c0:LV) (ds:Value),St W0 (fun k=>k=e) T 132 [(0,pt e 0),(3,d)] [bJ d c0,.box e [ds,.int .i64 d2] 64] [am ay c0 q,aJ (aN.int .i64) ds d1] a w∧ju q d1 d2=some y) ?_ ?_
 ·skip;refine ah hS fun a hS=>?_;obtain⟨ii,ha,hM⟩:=bd hM;refine wl rfl (bS hS lA rfl rfl 0 rfl (bh _ _ (hS.drop 0).dlt bs 7 _ _ (hS.boxRow 0 rfl) (hS.notin 0 rfl) (aA.lent (i:=0) rfl (hS.get 0 rfl)) _ ha) fun _ w hR hk=>?_);obtain⟨it,he,hrow,fn⟩:=hR;obtain rfl:=he.symm;refine⟨(aZ ii.2 it),hrow,fun a hS=>?_⟩;replace hS:=hS.fS (aA.back (i:=0) rfl fn);refine ah hS fun a hS=>?_;replace hS:=hS.nilRow ay 89 (by decide);obtain⟨r1,gi,hMo1⟩:=bd hM;refine bu _ (fun s a w=>∃ (Z:LU) (b8:Int) (W:LN) (X:Int) (e2:Value) (c1:LV) (e3:Value),(Z,b8,W,X)=s∧St W0 (fun k=>k=e) T 132 [(0,pt e 0),(3,e2),(4,.int .i64 b8)] [bJ e2 c1,.box e [e3,.int .i64 X] 64] [am ay c1 Z,aJ (aN.int .i64) e3 W] a w) gi ⟨_,_,_,_,_,_,_,rfl,hS.mt [0,1] [0,1]⟩ ?_;rintro s a w f1 ⟨Z,b8,W,X,e2,c1,e3,rfl,hS⟩ hM hf1;have hM:mm Z b8 W X=some f1:=hM;unfold mm at hM;refine az ?_;refine ah hS fun a hS=>?_;rcases cd hM with⟨hq,hM⟩|⟨hq,hM⟩
  ·refine ah hS fun a hS=>?_;refine az ?_;refine ah hS fun a hS=>?_;obtain⟨I,h9,hM⟩:=bd hM;refine wl rfl (bS hS lA rfl rfl 1 rfl (bh _ _ (hS.drop 1).dlt (aP.mk W X) 3 _ _ (hS.boxRow 1 rfl) (hS.notin 1 rfl) (aA.lent (i:=1) rfl (hS.get 1 rfl)) _ h9) fun _ w hR hk=>?_);obtain⟨jb,he,hrow,fr⟩:=hR;obtain rfl:=he.symm;refine⟨(aZ I.2 jb),hrow,fun a hS=>?_⟩;replace hS:=hS.fS (aA.back (i:=1) rfl fr);refine ah hS fun a hS=>?_;refine qy hS (bj (ps:=[(0,.tmp 22)]) hS Ff uX rfl (us:=[[.bool ((I.1:Int) == 1)]]) ⟨rfl,trivial⟩ (ws:=[.bool ((I.1:Int) == 1),.slice none 0 0,.int .i64 0,.int .i64 0]) rfl) fun a hS=>?_;refine wl rfl (aT (ps:=[(0,.tmp 23)]) hS EF uX (zl:=[.bool false,.slice none 0 0,.int .i64 0,.int .i64 0]) (by kernel_rfl) rfl (us:=[[.bool ((I.1:Int) == 1),.slice none 0 0,.int .i64 0,.int .i64 0]]) ⟨rfl,trivial⟩ (ws:=[.bool ((I.1:Int) == 1),.slice none 0 0,.int .i64 0,.int .i64 0]) rfl rfl rfl rfl fun le a w hk hS=>?_);replace hS:=(hS.lit (R:=ay) (us:=[.bool ((I.1:Int) == 1),.slice none 0 0,.int .i64 0,.int .i64 0]) (xs:=[(aK.mk ((I.1:Int) == 1) ([]) 0 0)]) 0 rfl (by decide) (aB.one_ (R:=ay) (x:=(aK.mk ((I.1:Int) == 1) ([]) 0 0)) (⟨_,rfl,aA.nil_ _ _ _⟩)) rfl rfl).freeze (R:=ay) 0 rfl 0 rfl;obtain⟨hs,hM⟩:=aS hM;refine wl rfl (bw (R:=ay) (xs:=Z) (ys:=[(aK.mk ((I.1:Int) == 1) ([]) 0 0)]) hS EF (by decide) (by decide) rfl rfl 0 rfl 3 rfl 0 rfl hs rfl fun np m1 a w hk hS=>?_);exact fz
  refine ah hS fun a hS=>?_;cases hM
  have hr:=hf1 _ rfl;subst hr;have hM:ju Z W X=some y:=hMo1;exact⟨_,_,_,_,_,_,hS.mt [0,1] [0,1],hM⟩
 rintro a w ⟨q,d1,d2,d,c0,ds,hS,hM⟩;unfold ju at hM;refine aG (J:=fun a w=>∃ (da:LU) (c5:LN) (c9:Int) (ak:LV) (bi:Value),St W0 (fun k=>k=e) T 132 [(3,d)] [bJ d ak,.box e [bi,.int .i64 c9] 64] [am ay ak da,aJ (aN.int .i64) bi c5] a w∧kM da c5 c9=some y) ?_ ?_
 ·skip;refine ah hS fun a hS=>?_;obtain⟨r1,gi,hMo1⟩:=bd hM;refine bu _ (fun s a w=>∃ (h:LU) (b:Int) (G:LN) (H:Int) (g:LV) (af:Value),(h,b,G,H)=s∧St W0 (fun k=>k=e) T 132 [(0,pt e 0),(3,d),(27,.int .i64 (q.length:Int)),(28,.int .i64 b)] [bJ d g,.box e [af,.int .i64 H] 64] [am ay g h,aJ (aN.int .i64) af G] a w) gi ⟨_,_,_,_,_,_,rfl,hS.mt [0,1] [0,1]⟩ ?_;rintro s a w f1 ⟨h,b,G,H,g,af,rfl,hS⟩ hM hf1;have hM:gO q h b G H=some f1:=hM;unfold gO at hM;refine ah hS fun a hS=>?_;refine az ?_;rcases cd hM with⟨ht,hM⟩|⟨ht,hM⟩
  ·refine ah hS fun a hS=>?_;refine aG (J:=fun a w=>∃ (dc:LU) (ca:LN) (cb:Int) (c2:LV) (e4:Value),St W0 (fun k=>k=e) T 132 [(0,pt e 0),(3,d),(27,.int .i64 (q.length:Int)),(28,.int .i64 b)] [bJ d c2,.box e [e4,.int .i64 cb] 64] [am ay c2 dc,aJ (aN.int .i64) e4 ca] a w∧nx b dc ca cb=some f1) ?_ ?_
   ·skip;refine ah hS fun a hS=>?_;have hL:=hS;replace hL:=hL.freeze (R:=ay) 0 rfl 0 rfl;obtain⟨no,h8,hM⟩:=bd hM;refine kc hS IN (sA _ _ hL.dlt h b _ (hL.get 0 rfl) _ h8) fun _ w hR a hk hA=>?_;obtain rfl:=hR;have hS:=bV hA;refine ah hS fun a hS=>?_;refine aG (J:=fun a w=>∃ (n:Int),St W0 (fun k=>k=e) T 132 [(0,pt e 0),(3,d),(5,.int .i64 b),(7,.int .i64 n),(27,.int .i64 (q.length:Int)),(28,.int .i64 b)] [bJ d g,.box e [af,.int .i64 H] 64] [am ay g h,aJ (aN.int .i64) af G] a w∧gM h b G H n=some f1) ?_ ?_
    ·skip;refine ah hS fun a hS=>?_;obtain⟨hp,h0,hM⟩:=bd hM;refine wl rfl (cR (R:=ay) hS uq tO rfl rfl 0 rfl 0 rfl h0 rfl fun ll n5 nd m2 hu hv hw a hS=>?_);obtain⟨o1,rfl,hc⟩:=hu;replace hS:=hS.fS hc;refine ah hS fun a hS=>?_;refine qy hS (bL (k:=0) hS HM 0 rfl hv hw rfl id (us:=[.bool hp.Ring]) rfl rfl (fun _=>rfl)) fun a hS=>?_;exact fz
    rintro a w ⟨n,hS,hM⟩;unfold gM at hM;refine aG (J:=fun a w=>∃ (a1:LN) (a2:Int) (m:Bool) (dl:Int) (dn:Int) (f:Nat) (e5:Value),St W0 (fun k=>k=e) T 132 [(0,pt e 0),(3,d),(5,.int .i64 b),(7,.int .i64 n),(8,pt f 0),(27,.int .i64 (q.length:Int)),(28,.int .i64 b)] [bJ d g,.box e [e5,.int .i64 a2] 64,.box f [.bool m,.slice none 0 0,.int .i64 dl,.int .i64 dn] 89] [am ay g h,aJ (aN.int .i64) e5 a1] a w∧ml h b n a1 a2 m dl dn=some f1) ?_ ?_
    ·skip;obtain⟨N202,gs⟩:∃ N,N=w.heap.size:=⟨_,rfl⟩;replace hS:=hS.fact (BA N202) (Nat.le_of_eq gs);refine dr [(6,.blk (some e)),(9,.blk (some e)),(12,.new N202)] hS fun w hQ hS=>?_;refine gE [0,1] hS fun a hS=>?_;obtain⟨F,gu,hM⟩:=bd hM;obtain⟨hi,i2,ng,md,hx,d6,hy,hz⟩:=kG (R:=ay) hS uq tO 0 rfl 1 rfl gu;obtain⟨o2,rfl,hd⟩:=hx;replace hS:=hS.fS hd;refine dy 2 (v:=pt hi i2) rfl (by kernel_rfl) (by kernel_rfl) (by kernel_rfl) rfl hQ hS (hz rfl rfl) rfl rfl rfl fun a hS=>?_;refine gE [3] hS fun a hS=>?_;refine dy (l:=[.blk (some e),.blk (some e)]) 4 (v:=.bool F.Ring) rfl (by kernel_rfl) (by kernel_rfl) (by kernel_rfl) (by kernel_rfl) hQ hS (bL (k:=0) hS HM 0 rfl d6 hy rfl (ic hS 0 rfl (tx d6) 1 rfl rfl (by decide) (ic hS 0 rfl (tx d6) 1 rfl rfl (by decide) bo)) (us:=[.bool F.Ring]) rfl rfl (fun _=>rfl)) rfl rfl rfl fun a hS=>?_;refine gE [5,8] hS fun a hS=>?_;obtain⟨t,f3,hM⟩:=bd hM;refine de (i:=6) (j:=11) rfl rfl (by kernel_rfl) rfl rfl ?_ ?_
     ·skip;skip;refine id (bS hS lA rfl rfl 1 rfl (bh _ _ (hS.drop 1).dlt (aP.mk G H) 4 _ _ (hS.boxRow 1 rfl) (hS.notin 1 rfl) (aA.lent (i:=1) rfl (hS.get 3 rfl)) _ f3) fun _ w hR hk=>?_);obtain⟨js,he,hrow,fs⟩:=hR;obtain rfl:=he.symm;refine⟨(aZ t.2 js),hrow,fun a hS=>⟨kB rfl hk iC,?_⟩⟩;replace hS:=hS.fS (aA.back (i:=1) rfl fs);refine gE [7] hS fun a hS=>?_;obtain⟨O,f4,hM⟩:=bd hM;refine de (i:=9) (j:=11) rfl rfl (by kernel_rfl) rfl rfl ?_ ?_
      ·skip;skip;refine id (bS hS lA rfl rfl 1 rfl (bh _ _ (hS.drop 1).dlt (aP.mk t.2.L t.2.At) 6 _ _ (hS.boxRow 1 rfl) (hS.notin 1 rfl) (aA.lent (i:=1) rfl (hS.get 0 rfl)) _ f4) fun _ w hR hk=>?_);obtain⟨k0,he,hrow,fM⟩:=hR;obtain rfl:=he.symm;refine⟨(aZ O.2 k0),hrow,fun a hS=>⟨kB rfl hk iC,?_⟩⟩;replace hS:=hS.fS (aA.back (i:=1) rfl fM);refine dy 10 (v:=.agg #[.bool F.Ring,.slice none 0 0,.int .i64 (IntKind.i64.wrap (1 + t.1)),.int .i64 O.1]) rfl (by kernel_rfl) (by kernel_rfl) (by kernel_rfl) rfl hQ hS (bj (ps:=[(0,.tmp 48),(2,.tmp 51),(3,.tmp 53)]) hS Ff uX rfl (us:=[[.bool F.Ring],[.int .i64 (IntKind.i64.wrap (1 + t.1))],[.int .i64 O.1]]) ⟨rfl,⟨rfl,⟨rfl,trivial⟩⟩⟩ (ws:=[.bool F.Ring,.slice none 0 0,.int .i64 (IntKind.i64.wrap (1 + t.1)),.int .i64 O.1]) rfl) rfl rfl rfl fun a hS=>?_;have hB:=(hS.get 3 rfl:N202≤w.heap.size);refine e1 11 (cr hS uX rfl fun hj hC a w hk hS=>⟨fc (hk),?_⟩);refine cC 12 (.blk (some hj)) _ (by kernel_rfl) (lZ (Nat.le_trans hB hC)) ?_;refine es 12 hS fun w hS=>?_;refine eD ?_;exact⟨_,_,_,_,_,_,_,hS.mt [1,2,0] [4,0],hM⟩
      skip;have hD:=(hS.get 2 rfl:N202≤w.heap.size);refine id (cr hS uX rfl fun hl hE a w hk hS=>⟨fc (hk),?_⟩);refine cC 12 (.blk (some hl)) _ (by kernel_rfl) (lZ (Nat.le_trans hD hE)) ?_;refine e1 9 (bS hS lA rfl rfl 2 rfl (bh _ _ (hS.drop 2).dlt (aP.mk t.2.L t.2.At) 6 _ _ (hS.boxRow 2 rfl) (hS.notin 2 rfl) (aA.lent (i:=2) rfl (hS.get 0 rfl)) _ f4) fun _ w hR hk=>?_);obtain⟨e8,he,hrow,a5⟩:=hR;obtain rfl:=he.symm;refine⟨(aZ O.2 e8),hrow,fun a hS=>⟨kB rfl hk iC,?_⟩⟩;replace hS:=hS.fS (aA.back (i:=2) rfl a5);refine dy 10 (v:=.agg #[.bool F.Ring,.slice none 0 0,.int .i64 (IntKind.i64.wrap (1 + t.1)),.int .i64 O.1]) rfl (by kernel_rfl) (by kernel_rfl) (by kernel_rfl) rfl hQ hS (bj (ps:=[(0,.tmp 48),(2,.tmp 51),(3,.tmp 53)]) hS Ff uX rfl (us:=[[.bool F.Ring],[.int .i64 (IntKind.i64.wrap (1 + t.1))],[.int .i64 O.1]]) ⟨rfl,⟨rfl,⟨rfl,trivial⟩⟩⟩ (ws:=[.bool F.Ring,.slice none 0 0,.int .i64 (IntKind.i64.wrap (1 + t.1)),.int .i64 O.1]) rfl) rfl rfl rfl fun a hS=>?_;refine es 12 hS fun w hS=>?_;refine eD ?_;exact⟨_,_,_,_,_,_,_,hS.mt [1,2,0] [4,0],hM⟩
     skip;have hF:=(hS.get 1 rfl:N202≤w.heap.size);refine id (cr hS uX rfl fun hm hG a w hk hS=>⟨fc (hk),?_⟩);refine cC 12 (.blk (some hm)) _ (by kernel_rfl) (lZ (Nat.le_trans hF hG)) ?_;refine e1 6 (bS hS lA rfl rfl 2 rfl (bh _ _ (hS.drop 2).dlt (aP.mk G H) 4 _ _ (hS.boxRow 2 rfl) (hS.notin 2 rfl) (aA.lent (i:=2) rfl (hS.get 3 rfl)) _ f3) fun _ w hR hk=>?_);obtain⟨k1,he,hrow,g0⟩:=hR;obtain rfl:=he.symm;refine⟨(aZ t.2 k1),hrow,fun a hS=>⟨kB rfl hk iC,?_⟩⟩;replace hS:=hS.fS (aA.back (i:=2) rfl g0);refine gE [7] hS fun a hS=>?_;obtain⟨bb,hb,hM⟩:=bd hM;refine e1 9 (bS hS lA rfl rfl 2 rfl (bh _ _ (hS.drop 2).dlt (aP.mk t.2.L t.2.At) 6 _ _ (hS.boxRow 2 rfl) (hS.notin 2 rfl) (aA.lent (i:=2) rfl (hS.get 0 rfl)) _ hb) fun _ w hR hk=>?_);obtain⟨e8,he,hrow,a5⟩:=hR;obtain rfl:=he.symm;refine⟨(aZ bb.2 e8),hrow,fun a hS=>⟨kB rfl hk iC,?_⟩⟩;replace hS:=hS.fS (aA.back (i:=2) rfl a5);refine dy 10 (v:=.agg #[.bool F.Ring,.slice none 0 0,.int .i64 (IntKind.i64.wrap (1 + t.1)),.int .i64 bb.1]) rfl (by kernel_rfl) (by kernel_rfl) (by kernel_rfl) rfl hQ hS (bj (ps:=[(0,.tmp 48),(2,.tmp 51),(3,.tmp 53)]) hS Ff uX rfl (us:=[[.bool F.Ring],[.int .i64 (IntKind.i64.wrap (1 + t.1))],[.int .i64 bb.1]]) ⟨rfl,⟨rfl,⟨rfl,trivial⟩⟩⟩ (ws:=[.bool F.Ring,.slice none 0 0,.int .i64 (IntKind.i64.wrap (1 + t.1)),.int .i64 bb.1]) rfl) rfl rfl rfl fun a hS=>?_;refine es 12 hS fun w hS=>?_;refine eD ?_;exact⟨_,_,_,_,_,_,_,hS.mt [1,2,0] [4,0],hM⟩
    rintro a w ⟨a1,a2,m,dl,dn,f,e5,hS,hM⟩;unfold ml at hM;refine aG (J:=fun a w=>∃ (b4:LN) (b5:Int) (u:Int) (z:Int) (ea:Value),St W0 (fun k=>k=e) T 132 [(0,pt e 0),(3,d),(5,.int .i64 b),(7,.int .i64 n),(8,pt f 0),(27,.int .i64 (q.length:Int)),(28,.int .i64 b)] [bJ d g,.box e [ea,.int .i64 b5] 64,.box f [.bool m,.slice none 0 0,.int .i64 u,.int .i64 z] 89] [am ay g h,aJ (aN.int .i64) ea b4] a w∧gL h b n m b4 b5 u z=some f1) ?_ ?_
    ·skip;refine ah hS fun a hS=>?_;rcases cd hM with⟨hH,hM⟩|⟨hH,hM⟩
     ·refine ah hS fun a hS=>?_;refine dr [(2,.blk (some e)),(6,.blk (some f)),(8,.blk (some f))] hS fun w hQ hS=>?_;refine gE [1,5] hS fun a hS=>?_;obtain⟨gp,eX,hM⟩:=bd hM;refine de (i:=0) (j:=2) rfl rfl (by kernel_rfl) rfl rfl ?_ ?_
      ·skip;skip;refine id (aT (ps:=[(0,.const (.int .i64 0)),(1,.const (.int .i64 1)),(2,.const (.int .i64 2)),(3,.const (.int .i64 4)),(4,.const (.int .i64 8)),(5,.const (.int .i64 16))]) hS EE JH (zl:=[.int .i64 0,.int .i64 0,.int .i64 0,.int .i64 0,.int .i64 0,.int .i64 0]) (by kernel_rfl) rfl (us:=[[.int .i64 0],[.int .i64 1],[.int .i64 2],[.int .i64 4],[.int .i64 8],[.int .i64 16]]) ⟨rfl,⟨rfl,⟨rfl,⟨rfl,⟨rfl,⟨rfl,trivial⟩⟩⟩⟩⟩⟩ (ws:=[.int .i64 0,.int .i64 1,.int .i64 2,.int .i64 4,.int .i64 8,.int .i64 16]) rfl rfl rfl rfl fun ls a w hk hS=>⟨fc (hk),?_⟩);refine e1 2 (bS hS lA rfl rfl 2 rfl (bh _ _ (hS.drop 2).dlt (aP.mk a1 a2) 6 _ _ (hS.boxRow 2 rfl) (hS.notin 2 rfl) (aA.lent (i:=2) rfl (hS.get 1 rfl)) _ eX) fun _ w hR hk=>?_);obtain⟨k2,he,hrow,g1⟩:=hR;obtain rfl:=he.symm;refine⟨(aZ gp.2 k2),hrow,fun a hS=>⟨kB rfl hk iC,?_⟩⟩;replace hS:=((hS.fS (aA.back (i:=2) rfl g1)).lit (R:=(aN.int .i64)) (us:=[.int .i64 0,.int .i64 1,.int .i64 2,.int .i64 4,.int .i64 8,.int .i64 16]) (xs:=[0,1,2,4,8,16]) 0 rfl (by decide) ((aB.one_ (R:=(aN.int .i64)) (x:=0) rfl).append ((aB.one_ (R:=(aN.int .i64)) (x:=1) rfl).append ((aB.one_ (R:=(aN.int .i64)) (x:=2) rfl).append ((aB.one_ (R:=(aN.int .i64)) (x:=4) rfl).append ((aB.one_ (R:=(aN.int .i64)) (x:=8) rfl).append (aB.one_ (R:=(aN.int .i64)) (x:=16) rfl)))))) rfl rfl).freeze (R:=(aN.int .i64)) 0 rfl 0 rfl;obtain⟨Y,P,hM⟩:=bd hM;obtain⟨a0,a9,f6,a3,a4,hS⟩:=il (R:=(aN.int .i64)) hS Ck yu 0 rfl P;obtain rfl:=a3;refine dy 3 (v:=pt a0 a9) rfl (by kernel_rfl) (by kernel_rfl) (by kernel_rfl) rfl hQ hS (a4 rfl rfl) rfl rfl rfl fun a hS=>?_;refine dy (l:=[.blk (some f)]) 4 (v:=.int .i64 Y) rfl (by kernel_rfl) (by kernel_rfl) (by kernel_rfl) (by kernel_rfl) hQ hS (tS (k:=0) hS yu 0 rfl rfl (F6 2 rfl rfl Ai) (us:=[.int .i64 Y]) rfl rfl (fun _=>rfl)) rfl rfl rfl fun a hS=>?_;refine es 6 hS fun w hS=>?_;refine gE [7] hS fun a hS=>?_;refine es 8 hS fun w hS=>?_;refine eD ?_;exact⟨_,_,_,_,_,hS.mt [0,1,2] [4,3],hM⟩
      skip;refine id (bS hS lA rfl rfl 1 rfl (bh _ _ (hS.drop 1).dlt (aP.mk a1 a2) 6 _ _ (hS.boxRow 1 rfl) (hS.notin 1 rfl) (aA.lent (i:=1) rfl (hS.get 1 rfl)) _ eX) fun _ w hR hk=>?_);obtain⟨k3,he,hrow,g2⟩:=hR;obtain rfl:=he.symm;refine⟨(aZ gp.2 k3),hrow,fun a hS=>⟨kB rfl hk iC,?_⟩⟩;replace hS:=hS.fS (aA.back (i:=1) rfl g2);refine de (i:=0) (j:=6) rfl rfl (by kernel_rfl) rfl rfl ?_ ?_
      ·skip;skip;refine id (aT (ps:=[(0,.const (.int .i64 0)),(1,.const (.int .i64 1)),(2,.const (.int .i64 2)),(3,.const (.int .i64 4)),(4,.const (.int .i64 8)),(5,.const (.int .i64 16))]) hS EE JH (zl:=[.int .i64 0,.int .i64 0,.int .i64 0,.int .i64 0,.int .i64 0,.int .i64 0]) (by kernel_rfl) rfl (us:=[[.int .i64 0],[.int .i64 1],[.int .i64 2],[.int .i64 4],[.int .i64 8],[.int .i64 16]]) ⟨rfl,⟨rfl,⟨rfl,⟨rfl,⟨rfl,⟨rfl,trivial⟩⟩⟩⟩⟩⟩ (ws:=[.int .i64 0,.int .i64 1,.int .i64 2,.int .i64 4,.int .i64 8,.int .i64 16]) rfl rfl rfl rfl fun hn a w hk hS=>⟨fc (hk),?_⟩);replace hS:=(hS.lit (R:=(aN.int .i64)) (us:=[.int .i64 0,.int .i64 1,.int .i64 2,.int .i64 4,.int .i64 8,.int .i64 16]) (xs:=[0,1,2,4,8,16]) 0 rfl (by decide) ((aB.one_ (R:=(aN.int .i64)) (x:=0) rfl).append ((aB.one_ (R:=(aN.int .i64)) (x:=1) rfl).append ((aB.one_ (R:=(aN.int .i64)) (x:=2) rfl).append ((aB.one_ (R:=(aN.int .i64)) (x:=4) rfl).append ((aB.one_ (R:=(aN.int .i64)) (x:=8) rfl).append (aB.one_ (R:=(aN.int .i64)) (x:=16) rfl)))))) rfl rfl).freeze (R:=(aN.int .i64)) 0 rfl 0 rfl;obtain⟨Y,P,hM⟩:=bd hM;obtain⟨a0,a9,f6,a3,a4,hS⟩:=il (R:=(aN.int .i64)) hS Ck yu 0 rfl P;obtain rfl:=a3;refine dy 3 (v:=pt a0 a9) rfl (by kernel_rfl) (by kernel_rfl) (by kernel_rfl) rfl hQ hS (a4 rfl rfl) rfl rfl rfl fun a hS=>?_;refine dy (l:=[.blk (some f)]) 4 (v:=.int .i64 Y) rfl (by kernel_rfl) (by kernel_rfl) (by kernel_rfl) (by kernel_rfl) hQ hS (tS (k:=0) hS yu 0 rfl rfl (F6 2 rfl rfl Ai) (us:=[.int .i64 Y]) rfl rfl (fun _=>rfl)) rfl rfl rfl fun a hS=>?_;refine es 6 hS fun w hS=>?_;refine gE [7] hS fun a hS=>?_;refine es 8 hS fun w hS=>?_;refine eD ?_;exact⟨_,_,_,_,_,hS.mt [0,1,2] [4,3],hM⟩
      skip;refine id (qt hS rfl rfl (us:=[.int .i64 5]) rfl yu 2 rfl rfl rfl (oc rfl on) fun w hk hS=>⟨kB rfl hk iC,?_⟩);refine e1 0 (aT (ps:=[(0,.const (.int .i64 0)),(1,.const (.int .i64 1)),(2,.const (.int .i64 2)),(3,.const (.int .i64 4)),(4,.const (.int .i64 8)),(5,.const (.int .i64 16))]) hS EE JH (zl:=[.int .i64 0,.int .i64 0,.int .i64 0,.int .i64 0,.int .i64 0,.int .i64 0]) (by kernel_rfl) rfl (us:=[[.int .i64 0],[.int .i64 1],[.int .i64 2],[.int .i64 4],[.int .i64 8],[.int .i64 16]]) ⟨rfl,⟨rfl,⟨rfl,⟨rfl,⟨rfl,⟨rfl,trivial⟩⟩⟩⟩⟩⟩ (ws:=[.int .i64 0,.int .i64 1,.int .i64 2,.int .i64 4,.int .i64 8,.int .i64 16]) rfl rfl rfl rfl fun hn a w hk hS=>⟨fc (hk),?_⟩);replace hS:=(hS.lit (R:=(aN.int .i64)) (us:=[.int .i64 0,.int .i64 1,.int .i64 2,.int .i64 4,.int .i64 8,.int .i64 16]) (xs:=[0,1,2,4,8,16]) 0 rfl (by decide) ((aB.one_ (R:=(aN.int .i64)) (x:=0) rfl).append ((aB.one_ (R:=(aN.int .i64)) (x:=1) rfl).append ((aB.one_ (R:=(aN.int .i64)) (x:=2) rfl).append ((aB.one_ (R:=(aN.int .i64)) (x:=4) rfl).append ((aB.one_ (R:=(aN.int .i64)) (x:=8) rfl).append (aB.one_ (R:=(aN.int .i64)) (x:=16) rfl)))))) rfl rfl).freeze (R:=(aN.int .i64)) 0 rfl 0 rfl;obtain⟨Y,P,hM⟩:=bd hM;obtain⟨a0,a9,f6,a3,a4,hS⟩:=il (R:=(aN.int .i64)) hS Ck yu 0 rfl P;obtain rfl:=a3;refine dy 3 (v:=pt a0 a9) rfl (by kernel_rfl) (by kernel_rfl) (by kernel_rfl) rfl hQ hS (a4 rfl rfl) rfl rfl rfl fun a hS=>?_;refine gE [4,7] hS fun a hS=>?_;refine es 8 hS fun w hS=>?_;refine eD ?_;exact⟨_,_,_,_,_,hS.mt [0,1,2] [4,3],hM⟩
     exact fz
    rintro a w ⟨b4,b5,u,z,ea,hS,hM⟩;unfold gL at hM;refine aG (J:=fun a w=>∃ (ch:LN) (ck:Int) (b9:(List cF)) (bl:Value) (c3:LV) (ed:Value),St W0 (fun k=>k=e) T 132 [(0,pt e 0),(3,d),(5,.int .i64 b),(8,pt f 0),(27,.int .i64 (q.length:Int)),(28,.int .i64 b)] [bJ d g,.box e [ed,.int .i64 ck] 64,tw bl c3,.box f [.bool m,bl,.int .i64 u,.int .i64 z] 89] [am ay g h,aJ (aN.int .i64) ed ch,am dN c3 b9] a w∧kN h b m u z ch ck b9=some f1) ?_ ?_
    ·skip;refine ah hS fun a hS=>?_;obtain⟨ih,h7,hM⟩:=bd hM;refine wl rfl (bS hS lA rfl rfl 1 rfl (bh _ _ (hS.drop 1).dlt (aP.mk b4 b5) 4 _ _ (hS.boxRow 1 rfl) (hS.notin 1 rfl) (aA.lent (i:=1) rfl (hS.get 1 rfl)) _ h7) fun _ w hR hk=>?_);obtain⟨k4,he,hrow,g3⟩:=hR;obtain rfl:=he.symm;refine⟨(aZ ih.2 k4),hrow,fun a hS=>?_⟩;replace hS:=hS.fS (aA.back (i:=1) rfl g3);refine ah hS fun a hS=>?_;replace hS:=hS.nilRow dN 93 (by decide);obtain⟨r2,la,hMo2⟩:=bd hM;refine bu _ (fun s a w=>∃ (p:Int) (U:LN) (V:Int) (r:(List cF)) (B:Value) (A:LV) (eg:Value),(p,U,V,r)=s∧St W0 (fun k=>k=e) T 132 [(0,pt e 0),(3,d),(5,.int .i64 b),(7,.int .i64 n),(8,pt f 0),(9,.int .i64 p),(27,.int .i64 (q.length:Int)),(28,.int .i64 b)] [bJ d g,.box e [eg,.int .i64 V] 64,tw B A,.box f [.bool m,B,.int .i64 u,.int .i64 z] 89] [am ay g h,aJ (aN.int .i64) eg U,am dN A r] a w) la ⟨_,_,_,_,_,_,_,rfl,hS.mt [1,2,0,3] [2,1,0]⟩ ?_;rintro s a w f2 ⟨p,U,V,r,B,A,eg,rfl,hS⟩ hM hf2;have hM:gN n m p U V r=some f2:=hM;unfold gN at hM;refine az ?_;refine ah hS fun a hS=>?_;rcases cd hM with⟨hI,hM⟩|⟨hI,hM⟩
     ·refine ah hS fun a hS=>?_;refine aG (J:=fun a w=>∃ (cl:LN) (co:Int) (dk:(List cF)) (el:Value) (c4:LV) (em:Value),St W0 (fun k=>k=e) T 132 [(0,pt e 0),(3,d),(5,.int .i64 b),(7,.int .i64 n),(8,pt f 0),(9,.int .i64 p),(27,.int .i64 (q.length:Int)),(28,.int .i64 b)] [bJ d g,.box e [em,.int .i64 co] 64,tw el c4,.box f [.bool m,el,.int .i64 u,.int .i64 z] 89] [am ay g h,aJ (aN.int .i64) em cl,am dN c4 dk] a w∧ny p cl co dk=some f2) ?_ ?_
      ·skip;refine ah hS fun a hS=>?_;refine aG (J:=fun a w=>∃ (Q:LN) (S:Int) (o:Bool) (C:Nat) (ag:Value),St W0 (fun k=>k=e) T 132 [(0,pt e 0),(3,d),(5,.int .i64 b),(7,.int .i64 n),(8,pt f 0),(9,.int .i64 p),(10,pt C 0),(27,.int .i64 (q.length:Int)),(28,.int .i64 b)] [bJ d g,.box e [ag,.int .i64 S] 64,tw B A,.box f [.bool m,B,.int .i64 u,.int .i64 z] 89,.box C [.bool o,.bool false,.int .i64 0,.int .i64 0] 93] [am ay g h,aJ (aN.int .i64) ag Q,am dN A r] a w∧gK n m p r Q S o=some f2) ?_ ?_
       ·skip;refine ah hS fun a hS=>?_;obtain⟨ib,h6,hM⟩:=bd hM;refine wl rfl (bS hS lA rfl rfl 1 rfl (bh _ _ (hS.drop 1).dlt (aP.mk U V) 3 _ _ (hS.boxRow 1 rfl) (hS.notin 1 rfl) (aA.lent (i:=1) rfl (hS.get 1 rfl)) _ h6) fun _ w hR hk=>?_);obtain⟨kk,he,hrow,g4⟩:=hR;obtain rfl:=he.symm;refine⟨(aZ ib.2 kk),hrow,fun a hS=>?_⟩;replace hS:=hS.fS (aA.back (i:=1) rfl g4);refine ah hS fun a hS=>?_;rcases cd hM with⟨hJ,hM⟩|⟨hJ,hM⟩
        ·refine ah hS fun a hS=>?_;refine qy hS (bj (ps:=[(0,.tmp 76)]) hS Jc AO rfl (us:=[[.bool true]]) ⟨rfl,trivial⟩ (ws:=[.bool true,.bool false,.int .i64 0,.int .i64 0]) rfl) fun a hS=>?_;refine ka hS AO fun lt n2 a w hk hS=>?_;exact fz
        refine ah hS fun a hS=>?_;refine qy hS (bj (ps:=[(0,.tmp 76)]) hS Jc AO rfl (us:=[[.bool ((n:Int) == 0)]]) ⟨rfl,trivial⟩ (ws:=[.bool ((n:Int) == 0),.bool false,.int .i64 0,.int .i64 0]) rfl) fun a hS=>?_;refine ka hS AO fun lv n3 a w hk hS=>?_;exact fz
       rintro a w ⟨Q,S,o,C,ag,hS,hM⟩;unfold gK at hM;refine ah hS fun a hS=>?_;refine aG (J:=fun a w=>∃ (E:Int),St W0 (fun k=>k=e) T 132 [(0,pt e 0),(3,d),(5,.int .i64 b),(7,.int .i64 n),(8,pt f 0),(9,.int .i64 p),(10,pt C 0),(11,.int .i64 E),(27,.int .i64 (q.length:Int)),(28,.int .i64 b)] [bJ d g,.box e [ag,.int .i64 S] 64,tw B A,.box f [.bool m,B,.int .i64 u,.int .i64 z] 89,.box C [.bool o,.bool false,.int .i64 0,.int .i64 0] 93] [am ay g h,aJ (aN.int .i64) ag Q,am dN A r] a w∧iU m p r Q S o E=some f2) ?_ ?_
       ·exact fz
       rintro a w ⟨E,hS,hM⟩;unfold iU at hM;refine ah hS fun a hS=>?_;obtain⟨ab,h3,hM⟩:=bd hM;refine wl rfl (bS hS lA rfl rfl 1 rfl (bh _ _ (hS.drop 1).dlt (aP.mk Q S) E _ _ (hS.boxRow 1 rfl) (hS.notin 1 rfl) (aA.lent (i:=1) rfl (hS.get 1 rfl)) _ h3) fun _ w hR hk=>?_);obtain⟨ks,he,hrow,g5⟩:=hR;obtain rfl:=he.symm;refine⟨(aZ ab.2 ks),hrow,fun a hS=>?_⟩;replace hS:=hS.fS (aA.back (i:=1) rfl g5);refine go hS fun a w hS=>?_;refine aG (J:=fun a w=>∃ (ax:LN) (b0:Int) (D:Int) (eq:Value),St W0 (fun k=>k=e) T 132 [(0,pt e 0),(3,d),(5,.int .i64 b),(7,.int .i64 n),(8,pt f 0),(9,.int .i64 p),(10,pt C 0),(11,.int .i64 E),(27,.int .i64 (q.length:Int)),(28,.int .i64 b)] [bJ d g,.box e [eq,.int .i64 b0] 64,tw B A,.box f [.bool m,B,.int .i64 u,.int .i64 z] 89,.box C [.bool o,.bool false,.int .i64 D,.int .i64 0] 93] [am ay g h,aJ (aN.int .i64) eq ax,am dN A r] a w∧iS m p r o E ax b0 D=some f2) ?_ ?_
       ·skip;refine aG (J:=fun a w=>∃ (d4:Bool) (b2:LN) (b3:Int) (er:Value),St W0 (fun k=>k=e) T 132 [(0,pt e 0),(3,d),(5,.int .i64 b),(7,.int .i64 n),(8,pt f 0),(9,.int .i64 p),(10,pt C 0),(11,.int .i64 E),(27,.int .i64 (q.length:Int)),(28,.int .i64 b),(92,.bool d4)] [bJ d g,.box e [er,.int .i64 b3] 64,tw B A,.box f [.bool m,B,.int .i64 u,.int .i64 z] 89,.box C [.bool o,.bool false,.int .i64 ab.1,.int .i64 0] 93] [am ay g h,aJ (aN.int .i64) er b2,am dN A r] a w∧iT m p r o E ab d4 b2 b3=some f2) ?_ ?_
        ·skip;refine ah hS fun a hS=>?_;rcases cd hM with⟨fd,hM⟩|⟨fd,hM⟩
         ·refine ah hS fun a hS=>?_;obtain⟨i9,h5,hM⟩:=bd hM;refine wg hS rfl rfl rfl fd (bS hS lA rfl rfl 1 rfl (bh _ _ (hS.drop 1).dlt (aP.mk ab.2.L ab.2.At) 2 _ _ (hS.boxRow 1 rfl) (hS.notin 1 rfl) (aA.lent (i:=1) rfl (hS.get 0 rfl)) _ h5) fun _ w hR hk=>?_);obtain⟨kt,he,hrow,g6⟩:=hR;obtain rfl:=he.symm;refine⟨(aZ i9.2 kt),hrow,fun a hS=>?_⟩;replace hS:=hS.fS (aA.back (i:=1) rfl g6);exact fz
         exact fz
        rintro a w ⟨d4,b2,b3,er,hS,hM⟩;unfold iT at hM;rcases cd hM with⟨hK,hM⟩|⟨hK,hM⟩
        ·refine ah hS fun a hS=>?_;refine qy hS (Gh hS rfl rfl) fun a hS=>?_;obtain⟨i5,h4,hM⟩:=bd hM;refine wl rfl (bS hS lA rfl rfl 1 rfl (bh _ _ (hS.drop 1).dlt (aP.mk b2 b3) (min E 3) _ _ (hS.boxRow 1 rfl) (hS.notin 1 rfl) (aA.lent (i:=1) rfl (hS.get 1 rfl)) _ h4) fun _ w hR hk=>?_);obtain⟨kv,he,hrow,g7⟩:=hR;obtain rfl:=he.symm;refine⟨(aZ i5.2 kv),hrow,fun a hS=>?_⟩;replace hS:=hS.fS (aA.back (i:=1) rfl g7);exact fz
        exact fz
       rintro a w ⟨ax,b0,D,eq,hS,hM⟩;unfold iS at hM;refine aG (J:=fun a w=>∃ (cv:LN) (d0:Int) (K:Bool) (M:Int) (et:Value),St W0 (fun k=>k=e) T 132 [(0,pt e 0),(3,d),(5,.int .i64 b),(7,.int .i64 n),(8,pt f 0),(9,.int .i64 p),(10,pt C 0),(27,.int .i64 (q.length:Int)),(28,.int .i64 b)] [bJ d g,.box e [et,.int .i64 d0] 64,tw B A,.box f [.bool m,B,.int .i64 u,.int .i64 z] 89,.box C [.bool o,.bool K,.int .i64 D,.int .i64 M] 93] [am ay g h,aJ (aN.int .i64) et cv,am dN A r] a w∧iR p r o D cv d0 K M=some f2) ?_ ?_
       ·skip;refine aG (J:=fun a w=>∃ (d3:Bool) (ao:LN) (av:Int) (ex:Value),St W0 (fun k=>k=e) T 132 [(0,pt e 0),(3,d),(5,.int .i64 b),(7,.int .i64 n),(8,pt f 0),(9,.int .i64 p),(10,pt C 0),(11,.int .i64 E),(27,.int .i64 (q.length:Int)),(28,.int .i64 b),(114,.bool d3)] [bJ d g,.box e [ex,.int .i64 av] 64,tw B A,.box f [.bool m,B,.int .i64 u,.int .i64 z] 89,.box C [.bool o,.bool false,.int .i64 D,.int .i64 0] 93] [am ay g h,aJ (aN.int .i64) ex ao,am dN A r] a w∧gr p r o E D d3 ao av=some f2) ?_ ?_
        ·skip;refine ah hS fun a hS=>?_;rcases cd hM with⟨hN,hM⟩|⟨hN,hM⟩
         ·refine ah hS fun a hS=>?_;rcases cd hM with⟨fl,hM⟩|⟨fl,hM⟩
          ·refine ah hS fun a hS=>?_;obtain⟨i4,h2,hM⟩:=bd hM;refine wg hS rfl rfl rfl fl (bS hS lA rfl rfl 1 rfl (bh _ _ (hS.drop 1).dlt (aP.mk ax b0) 3 _ _ (hS.boxRow 1 rfl) (hS.notin 1 rfl) (aA.lent (i:=1) rfl (hS.get 1 rfl)) _ h2) fun _ w hR hk=>?_);obtain⟨kx,he,hrow,g8⟩:=hR;obtain rfl:=he.symm;refine⟨(aZ i4.2 kx),hrow,fun a hS=>?_⟩;replace hS:=hS.fS (aA.back (i:=1) rfl g8);exact fz
          exact fz
         exact fz
        rintro a w ⟨d3,ao,av,ex,hS,hM⟩;unfold gr at hM;rcases cd hM with⟨hP,hM⟩|⟨hP,hM⟩
        ·refine ah hS fun a hS=>?_;obtain⟨i3,h1,hM⟩:=bd hM;refine wl rfl (bS hS lA rfl rfl 1 rfl (bh _ _ (hS.drop 1).dlt (aP.mk ao av) E _ _ (hS.boxRow 1 rfl) (hS.notin 1 rfl) (aA.lent (i:=1) rfl (hS.get 1 rfl)) _ h1) fun _ w hR hk=>?_);obtain⟨l0,he,hrow,gb⟩:=hR;obtain rfl:=he.symm;refine⟨(aZ i3.2 l0),hrow,fun a hS=>?_⟩;replace hS:=hS.fS (aA.back (i:=1) rfl gb);exact fz
        exact fz
       rintro a w ⟨cv,d0,K,M,et,hS,hM⟩;unfold iR at hM;refine ah hS fun a hS=>?_;refine wl rfl (aT (ps:=[(0,.tmp 122)]) hS GI AO (zl:=[.bool false,.bool false,.int .i64 0,.int .i64 0]) (by kernel_rfl) rfl (us:=[[.bool o,.bool K,.int .i64 D,.int .i64 M]]) ⟨rfl,trivial⟩ (ws:=[.bool o,.bool K,.int .i64 D,.int .i64 M]) rfl rfl rfl rfl fun ly a w hk hS=>?_);replace hS:=(hS.lit (R:=dN) (us:=[.bool o,.bool K,.int .i64 D,.int .i64 M]) (xs:=[(cF.mk o K D M)]) 0 rfl (by decide) (aB.one_ (R:=dN) (x:=(cF.mk o K D M)) rfl) rfl rfl).freeze (R:=dN) 0 rfl 0 rfl;obtain⟨hV,hM⟩:=aS hM;refine wl rfl (bw (R:=dN) (xs:=r) (ys:=[(cF.mk o K D M)]) hS GI (by decide) (by decide) rfl rfl 2 rfl 4 rfl 0 rfl hV rfl fun o3 ms a w hk hS=>?_);exact fz
      rintro a w ⟨cl,co,dk,el,c4,em,hS,hM⟩;unfold ny at hM;exact fz
     refine ah hS fun a hS=>?_;cases hM
     have hr:=hf2 _ rfl;subst hr;have hM:kN h b m u z U V r=some f1:=hMo2;exact⟨_,_,_,_,_,_,hS.mt [0,1,2,3] [0,1,2],hM⟩
    rintro a w ⟨ch,ck,b9,bl,c3,ed,hS,hM⟩;unfold kN at hM;refine ah hS fun a hS=>?_;obtain⟨ho,eT,hM⟩:=bd hM;refine wl rfl (cR (R:=ay) hS uq tO rfl rfl 0 rfl 0 rfl eT rfl fun m0 n6 nl n0 hW hX hY a hS=>?_);obtain⟨l1,rfl,hf⟩:=hW;replace hS:=(hS.fS hf).freeze (R:=dN) 2 rfl 3 rfl;refine wl rfl (oU (R:=ay) (k:=0) (cs:=(so ho l1)) (us:=[.bool m,bl,.int .i64 u,.int .i64 z]) (x':=(aK.mk m b9 u z)) hS rfl rfl rfl tO 0 rfl 2 rfl hX hY eT (⟨_,rfl,(hS.get 1 rfl)⟩) rfl rfl (⟨_,rfl,(hS.get 0 rfl)⟩) fun n1 w hk hS=>?_);exact fz
   rintro a w ⟨dc,ca,cb,c2,e4,hS,hM⟩;unfold nx at hM;exact fz
  refine ah hS fun a hS=>?_;cases hM
  have hr:=hf1 _ rfl;subst hr;have hM:kM h G H=some y:=hMo1;exact⟨_,_,_,_,_,hS.mt [0,1] [0,1],hM⟩
 rintro a w ⟨da,c5,c9,ak,bi,hS,hM⟩;unfold kM at hM;refine ah hS fun a hS=>?_;cases hM
 refine aE hS rfl (ap hS rfl aD) ?_;exact⟨d,ak,bi,rfl,hS.retOwnm ⟨.inr (List.mem_of_getElem? (i:=0) rfl),⟨.inr (List.mem_of_getElem? (i:=1) rfl),trivial⟩⟩ 0 rfl 0 rfl 1 rfl (by decide),hS.boxRow 1 rfl,(aA.up ⟨.inr (List.mem_of_getElem? (i:=0) rfl),⟨.inr (List.mem_of_getElem? (i:=1) rfl),trivial⟩⟩ (hS.get 1 rfl))⟩
end
end
end Go.Proofs.YtmfcloapbgfhaaaGreatDoor
