/- Texts of the proof, joined (7). -/
import Derived.Test.YtmfcloapbgfhaaaGreatDoorA6
import Derived.Test.YtmfcloapbgfhaaaGreatDoorA0
import Derived.Test.YtmfcloapbgfhaaaGreatDoorRows
import Derived.ProofKit
import Derived.LaidMore
import Derived.LaidLaws
import Derived.MakeChecks
import Derived.Lib.LaidTab
import Derived.SizedLaws
import Derived.Deep.Slices
import Derived.Deep.Fields
import Derived.Lib.SmallJoins
import Derived.OpenShut
import GoSem.ClaimGoes
set_option linter.unusedVariables false
set_option linter.unusedSimpArgs false
set_option linter.unusedSectionVars false
namespace Go.Proofs.YtmfcloapbgfhaaaGreatDoor
section
open Go.RowKit
open Go.Lib hiding intOf
theorem vG.nil:vG []:=⟨fun c h=>(by cases h),cR _⟩
section
variable {u:(List aW)×aj×aX} {o x:(List am)×aX} {y:List am} {r:Int} {raw bs:List aG}
theorem Jn (hB:ki u.1 u.2.1) (hl:u.1.length≤8) (hr:r≤u.2.1.Revision) (ho:vG o.1) (hx:vG x.1) (hy:vG y):eV u o x y r false=some true:=by
 obtain⟨p,e,p1,p2,p3⟩:=C8 hB hl hr hy;obtain⟨m,c,g,m1,m2,m3,m4⟩:=zh ho hx hy;obtain⟨m',c',g',k1,k2,k3,k4⟩:=zh hy hx ho;refine Ik ?_;unfold eV;rw [cond_false];refine aM p1 (aM p2 (aM m1 (aM m2 (aM k1 (aM k2 (aM p3 ?_))))));dsimp only;simp only [cond_true,beq_self_eq_true];refine aM m3 ?_;rw [cond_true];refine aM (s7 (by unfold Rm; omega)) ?_;rw [cond_true];refine aM k3 ?_;rw [cond_true];refine aM (s7 (by unfold Rm; omega)) ?_;rw [cond_true];exact aM rR (ar rfl)
theorem Jp (hB:ki u.1 u.2.1) (hl:u.1.length≤8) (hr:r≤u.2.1.Revision) (ho:vG o.1) (hx:vG x.1) (hxc:cx x.1=some true) (hy:vG y):eW u o x y r false=some true:=by
 obtain⟨v,hv⟩:=qX hy.1 hy.2;unfold eW;rw [cond_false,hv.r,ax];have h2:=Jn hB hl hr ho hx hy;cases v with
 | false=>rw [cond_false]; exact h2
 | true =>
  obtain⟨d,d1,d2,d3⟩:=Gj hx hy hxc hv.r;rw [cond_true,d1,ax,d2,ax,d3,ax];exact h2
theorem Jq (hraw:∀ z∈raw,vG z.Inputs) (hrl:raw.length≤1000000) (hbs:∀ z∈bs,vG z.Inputs) (hbl:bs.length≤1000000) (hB:ki u.1 u.2.1) (hl:u.1.length≤8) (hr:r≤u.2.1.Revision) (ho:vG o.1) (hx:vG x.1) (hxc:cx x.1=some true) (hy:vG y):bD raw u o x y bs r=some true:=by
 obtain⟨v,v1,v2⟩:=zr hbs hbl;obtain⟨w,w1,w2⟩:=zr hraw hrl;obtain⟨z,_,z2,_⟩:=yo hB hl hr;obtain⟨i,i1,i2,i3⟩:=C7 hB r;unfold bD;rw [v1,ax,v2,ax,bne_self_eq_false,cond_false,w1,ax,w2,ax,bne_self_eq_false,cond_false,z2,ax];have h3:=Jp hB hl hr ho hx hxc hy;cases z with
 | false=>rw [cond_false]; exact h3
 | true =>
  rw [cond_true,i1,ax,i2,ax,i3,ax];exact h3
end
theorem GZ:∀ k:Fin 9,Nat.ble ((ByteArray.mk #[98]).size+(Go.Utf8.encode (IntKind.i32.wrap (IntKind.i64.wrap (97+(k.val:Int))))).size) 140737488355328=true:=by decide +kernel
section
variable {raw:List aG} {l:List am} {t:List Int}
theorem Jr (hraw:∀ z∈raw,vG z.Inputs) (hrl:raw.length≤1000000) (hl:vG l) (ht:t.length≤400) (what by_:Int):eY raw l t what by_=some true:=by
 refine Ik ?_;unfold eY;refine aM (v:=aX.mk t 0) rfl (aQ (Jx (d:=t) (i:=0) ⟨by omega,by omega,ht⟩ (by omega) (by omega)) fun u ⟨hR,hB,hrev,hd⟩=>aQ (zz hd) fun o ⟨ho,hd1⟩=>aQ (zz hd1) fun x ⟨hx,hd2⟩=>aQ (zz hd2) fun y ⟨hy,hd3⟩=>aQ (CQ hd3 (by decide) (by decide)) fun wd ⟨_,hd4⟩=>aQ (MQ what (by omega) (by omega)) fun m ⟨hm0,hm8⟩=>?_);have hoz:=ho.sz (by omega);have hxz:=hx.sz (by omega);have hyz:=hy.sz (by omega);have hyl:=hy.len;have hxc:cx x.1=some true:=by
  obtain⟨v,hv⟩:=qX hxz.1 hxz.2;have h:=sw hx (by omega);rw [hv.p] at h;rw [hv.r,h]
 have hrv:=hB.rev;have J:∀ (y':List am) (bs:List aG) (r:Int),vG y'→(∀ z∈bs,vG z.Inputs)→bs.length≤1000000→r≤u.2.1.Revision→Ok (bD raw u o x y' bs r) fun v=>v=true:=fun y' bs r h1 h2 h3 h4=>⟨true,Jq hraw hrl h2 h3 hB hR.high h4 hoz hxz hxc h1,rfl⟩;have hb3:∀ z∈[aG.mk (ByteArray.mk #[48]) o.1,aG.mk (ByteArray.mk #[120]) x.1,aG.mk wd.1 y.1],vG z.Inputs:=by
  intro z hz;simp only [cz,gn,or_false] at hz;rcases hz with rfl | rfl | rfl
  ·exact hoz
  ·exact hxz
  ·exact hyz
 refine aF (fun _=>J _ _ _ hl hb3 (o4 rfl) (nM _)) fun _=>?_;refine aF (fun _=>?_) fun _=>?_
 ·obtain⟨k,hk,ek⟩:=wx by_ (m:=9) (by omega) (by omega);refine aM ek (aM (kq (by omega)) (dM (dX (by simp only [qQ]; omega)) (J _ _ _ (hyz.snoc (by omega) (by omega) _) hb3 (o4 rfl) (nM _))))
 refine aF (fun _=>?_) fun _=>?_
 ·refine aM (show c6 9=some (bz 9) from kq (n:=9) (by omega)) (dM (dX (by simp only [qQ]; omega)) (J _ _ _ (hyz.snoc (by omega) (by omega) _) hb3 (o4 rfl) (nM _)))
 refine aF (fun _=>?_) fun _=>?_
 ·obtain⟨q,hq,eq⟩:=wx by_ (m:=4) (by omega) (by omega);refine cc (I:=fun k s=>vG s.1∧s.1.length≤5+k∧s.2=10+(k:Int)) (post:=fun r=>vG r.1∧r.2=([aG.mk (ByteArray.mk #[48]) o.1,aG.mk (ByteArray.mk #[120]) x.1,aG.mk wd.1 y.1],u.2.1.Revision)) (N:=90) ⟨hyz,by dsimp only; omega,rfl⟩ (fun k s hk ⟨h1,h2,h3⟩=>?_) (fun r ⟨h1,h2⟩=>?_)
  ·obtain⟨ys,n⟩:=s;dsimp only at h1 h2 h3;subst h3;dsimp only;unfold jl;refine aM eq (aF (fun _=>aF (fun hn=>?_) fun _=>ar (show _∧_ from ⟨h1,rfl⟩)) fun _=>ar (show _∧_ from ⟨h1,rfl⟩));have hn:=of_decide_eq_true hn;refine aM (v:=bz (10+k)) (by rw [show (10+(k:Int))=((10+k:Nat):Int) by omega]; exact kq (by omega)) (dM (dX (by simp only [qQ]; omega)) (ar (show _∧_ from ⟨by omega,h1.snoc (by omega) (by omega) _,?_,?_⟩)))
   ·dsimp only;rw [cS,qQ]; omega
   ·dsimp only;rw [pX (by omega) (by omega)]; omega
  ·obtain⟨ys,z⟩:=r;dsimp only at h1 h2;subst h2;exact J _ _ _ h1 hb3 (o4 rfl) (nM _)
 refine aF (fun _=>?_) fun _=>?_
 ·obtain⟨q,hq,eq⟩:=wx by_ (m:=2) (by omega) (by omega);refine cc (I:=fun k s=>(∀ z∈s.1,vG z.Inputs)∧s.1.length≤3+k∧s.2=(k:Int)) (post:=fun r=>r.1=y.1∧(∀ z∈r.2.1,vG z.Inputs)∧r.2.1.length≤1000000∧r.2.2=u.2.1.Revision) (N:=9) ⟨hb3,o4 rfl,rfl⟩ (fun k s hk ⟨h1,h2,h3⟩=>?_) (fun r ⟨h1,h2,h3,h4⟩=>?_)
  ·obtain⟨bs,n⟩:=s;dsimp only at h1 h2 h3;subst h3;dsimp only;unfold jm;refine aF (fun hn=>?_) fun _=>ar (show _∧_ from ⟨rfl,h1,by dsimp only; omega,rfl⟩);have hn:=of_decide_eq_true hn;refine aM eq (aM (v:=bs.take (min bs.length (7+q))) ?_ (dM (GZ ⟨k,by omega⟩) (dM (dX (by rw [fe,qQ]; omega)) (ar (show _∧_ from ⟨by omega,?_,?_,?_⟩)))))
   ·rw [pX (by omega) (by omega),show min (bs.length:Int) (7+(q:Int))=((min bs.length (7+q):Nat):Int) by omega];exact pF (by omega)
   ·intro z hz;rcases dz.1 hz with hz | hz
    ·exact h1 z (List.mem_of_mem_take hz)
    ·rw [eG.1 hz]; exact vG.nil
   ·dsimp only;rw [cS,fe,qQ]; omega
   ·dsimp only;rw [pX (by omega) (by omega)]; omega
  ·obtain⟨ys,bs,rv⟩:=r;dsimp only at h1 h2 h3 h4;subst h1 h4;exact J _ _ _ hyz h2 h3 (nM _)
 refine aF (fun _=>?_) fun _=>?_
 ·obtain⟨q,hq,eq⟩:=wx by_ (m:=3) (by omega) (by omega);refine aM eq (dM (decide_eq_true (by rw [pX (by omega) (by omega)]; omega)) (dM (dX (by rw [pX (by omega) (by omega)]; omega)) (aM (v:=aG.mk (ByteArray.mk #[48]) o.1) rfl (J _ _ _ hyz ?_ (o4 rfl) (nM _)))));intro z hz;rcases cz.1 (show z∈(_::_::_::[]:List aG) from hz) with rfl | hz
  ·exact hoz
  ·exact hb3 z (o8 _ hz)
 refine aF (fun _=>?_) fun _=>?_
 ·obtain⟨q,hq,eq⟩:=wx by_ (m:=2) (by omega) (by omega);refine aM eq (J _ _ _ hyz hb3 (o4 rfl) ?_);rw [pX (by omega) (by omega)]; omega
 exact J _ _ _ hyz hb3 (o4 rfl) (nM _)
theorem Jl (hraw:∀ z∈raw,∀ c∈z.Inputs,c.Key.Text.size≤140737488355328) (hl:∀ c∈l,c.Key.Text.size≤140737488355328) (what by_:Int):jw raw l t what by_=some true:=by
 unfold jw;rw [rR];cases h1:decide ((20:Int)<(raw.length:Int)) with
 | true=>rfl
 | false =>
  have h1:=of_decide_eq_false h1;rw [cond_false];unfold lz;rw [ax];cases h2:decide (((l.length:Int):Int)≤80) with
  | false=>rfl
  | true =>
   have h2:=of_decide_eq_true h2;rw [dh,cond_false];rcases kP 400 t.length with ht | ht
   ·rw [DE (by omega)]; rfl
   rw [EK ht,ax,dh,cond_false];have e:loop (fun s:Int=>dS raw s) 0=some (if raw.any (fun z=>!decide (((z.Inputs.length:Int):Int)≤80)) then Fl.out true else Fl.go ()) :=
    kH (xs:=raw) (fun z=>!decide (((z.Inputs.length:Int):Int)≤80)) (fun n=>(n:Int)) rfl
     (fun k z hz hp=>by
      have:=bc hz;unfold dS lz;rw [cU hz,cond_true,aZ,hz,ax,ax,hp,cond_false,cJ (by omega)])
     (fun k z hz hp=>by
      unfold dS lz;rw [cU hz,cond_true,aZ,hz,ax,ax,hp,cond_true,rR,ax])
     (by unfold dS; rw [bA]; rfl)
   rw [e,ax];cases ha:raw.any (fun z=>!decide (((z.Inputs.length:Int):Int)≤80)) with
   | true=>rfl
   | false =>
    have hz:∀ z∈raw,z.Inputs.length≤80:=fun z hz=>by
     have:=wO.1 ha z hz;have h3:((z.Inputs.length:Int))≤80:=by simpa using this
     omega
    show eY raw l t what by_=some true;exact Jr (fun z h=>⟨hraw z h,by have:=hz z h; omega⟩) (by omega) ⟨hl,by omega⟩ ht what by_
end
end
section
open Go.RowKit Go.ChangeShapes Go.WideShapes Go.ChangeAt
open Go.Lib hiding intOf
theorem PU:ownKnob Tryz.prog.godebug=none:=by kernel_rfl
theorem LaidVars.mem {P:Program} {w:World} {nm:String} {d:DataW Unit}:∀ {l:List (String×DataW Unit)} {ps:List MemPlace},DataW.LaidVars P w l ps→(nm,d)∈l →
  ∃ g t cs fuel p,P.globalNamed nm=some g∧(P.globals[g]?).map (·.type)=some t∧w.var? P nm=some cs∧DataW.trod (fun _=>()) P w 0 (fun _=>true) false fuel t cs.toList=some (d,p)
 | [],_,_,hm=>by cases hm
 | (n1,d1)::l,ps,h,hm=>by
  obtain⟨g,t,cs,f,p,q,hg,ht,hv,hd,hq,_⟩:=h;rcases cz.1 hm with he | hm
  ·injection he with h1 h2;subst h1 h2;exact⟨g,t,cs,f,p,hg,ht,hv,hd⟩
  ·exact LaidVars.mem hq hm
theorem H7 {W : World} {l : List (String × DataW Unit)} (h : laidMet aP l W) (hm : ("internal/strconv.uint64pow10", Lib.tabData .u64 pow10Tab) ∈ l) : TabIs aP W "internal/strconv.uint64pow10" .u64 pow10Tab := by
 obtain⟨ps, hl, _⟩ := h;obtain⟨g, t, cs, f, p, hg, ht, hv, hd⟩ := LaidVars.mem hl hm;obtain rfl := fq ((show Tryz.prog.globalNamed "internal/strconv.uint64pow10" = some 1 by kernel_rfl).symm.trans hg)
 obtain rfl:=fq ((show (Tryz.prog.globals[1]?).map (·.type)=some 213 by kernel_rfl).symm.trans ht);unfold TabIs;rw [hv,← cells_of_tab Tryz.underlying213 Tryz.underlying178 (by kernel_rfl) (by kernel_rfl) hd]
theorem DB {W:World} {l:List (String×DataW Unit)} (h:laidMet aP l W) {nm:String} {d:DataW Unit} {s:String} {g0:Nat} (hm:(nm,DataW.iface s d)∈l) (hg0:Tryz.prog.globalNamed nm=some g0) (ht0:(Tryz.prog.globals[g0]?).map (·.type)=some 169) :
  ∃ ev,W.cell? ⟨g0,0,none⟩=some ev∧(ev = .nilIface∨∃ te pe,ev = .iface te pe):=by
 obtain⟨ps,hl,_⟩:=h;obtain⟨g,t,cs,f,p,hg,ht,hv,hd⟩:=LaidVars.mem hl hm;obtain rfl:=fq (hg0.symm.trans hg);obtain rfl:=fq (ht0.symm.trans ht);obtain⟨_,u,v,hcs,_,_⟩:=iface_of_trod Tryz.underlying169 hd;refine⟨.iface u v,?_,.inr ⟨u,v,rfl⟩⟩;have:=World.var?_cell hg0 hv 0;rw [Array.eq_one_of_toList hcs] at this;simpa using this
theorem Or {W:World} {l:List (String×DataW Unit)} (h:laidMetH aP l W) (hp:(l.all fun x=>x.2.handleName?.isNone)=true)
  (h1 : ("internal/strconv.uint64pow10", Lib.tabData .u64 pow10Tab) ∈ l) (h2 : ("strconv.ErrSyntax", Rows.laid_strconv_ErrSyntax) ∈ l) (h3 : ("strconv.ErrRange", Rows.laid_strconv_ErrRange) ∈ l) : Lv W := by
 rw [MakeChecks.laidMetH_plain _ _ _ hp] at h;exact⟨DB h h2 (by kernel_rfl) (by kernel_rfl),DB h h3 (by kernel_rfl) (by kernel_rfl),H7 h h1⟩
end
section
open Go.ChangeShapes Go.WideShapes Go.ChangeAt Go.RowKit Go.Deep Go.Joins
theorem FJ {α:Type} {Q:Nat→α→Prop}:∀ (n:Nat),(∀ i,i<n→∃ x,Q i x)→∃ xs:List α,xs.length=n∧∀ i x,xs[i]? = some x→Q i x
 | 0,_=>⟨[],rfl,fun i x h=>by simp at h⟩
 | n+1,h=>by
  obtain⟨xs,h1,h2⟩:=FJ n fun i hi=>h i (by omega);obtain⟨y,hy⟩:=h n (by omega);refine⟨xs++[y],by simp [h1],fun i x hx=>?_⟩;by_cases hi:i<xs.length
  ·rw [m6 hi] at hx; exact h2 i x hx
  ·have hl:=(bN.1 hx).1;simp only [cS,gH,sH] at hl;have:i=xs.length:=by omega
   subst this;rw [o5 (cX _),B2] at hx;simp only [Ea,fg] at hx;subst hx;rw [h1]; exact hy
def uA {α:Type} (P:Program) (t:TypeId) (R:aY α) (Q:α→Prop):Prop :=
 ∀ {H:Type} {enc:TypeId×Value→H} {w:World} {base n:Nat} {sp:Nat→Bool} {held:Bool} {cs:bv} {d:DataW H} {p:List MemPlace},DataW.trod enc P w base sp held n t cs=some (d,p)→(∀ m∈d.weights P t,m≤reachBytes)→∃ x,R.rel No w cs x∧Q x
section
variable {P:Program} {t e:TypeId}
theorem uA.int {k:IntKind} (ht:P.underlying t=some (.int k)):uA P t (aY.int k) (fun n=>(Lit.int k n).wf=true):=fun h _=>by
 obtain⟨n,rfl,_,hw⟩:=DataW.trod_int ht h;exact⟨n,rfl,hw⟩
theorem uA.str (ht:P.underlying t=some .string):uA P t aY.str (fun s=>s.size≤140737488355328):=fun h hw=>by
 obtain⟨s,rfl,hx,_⟩:=DataW.trod_string ht h;simp only [AS] at hx;obtain⟨rfl,rfl⟩:=hx;refine⟨s,rfl,?_⟩;have:=hw s.data.toList.length (by simp [DataW.weights]);have hr:reachBytes≤140737488355328:=by decide
 have hz:s.size=s.data.toList.length:=by rw [Array.length_toList]; rfl
 omega
theorem AB {H:Type}:∀ {ds:List (DataW H)} {i:Nat} {d:DataW H},ds[i]? = some d→∀ n∈d.weights P e,n∈DataW.weightsAll P e ds
 | [],_,_,h,_,_=>by simp at h
 | d0::r,0,d,h,n,hn=>by
  simp only [Ea,fg] at h;subst h;simp only [DataW.weightsAll,dz];exact .inl hn
 | d0::r,i+1,d,h,n,hn=>by
  simp only [Ed] at h;simp only [DataW.weightsAll,dz];exact .inr (AB h n hn)
theorem uA.slice {α:Type} {R:aY α} {Q:α→Prop} (ht:P.underlying t=some (.slice e)) (hc:P.cellsOf e=R.size) (hs:0<R.size) (ho:uA P e R Q):uA P t (aY.slice R) (fun xs=>(∀ x∈xs,Q x)∧xs.length*P.bytesOf e≤reachBytes∧xs.length≤maxLen):=fun {H enc w base n sp held cs d p} h hw=>by
 rcases open_slice ht h with⟨rfl,hx⟩|⟨a,len,cap,m,n,D,Pl,rfl,hb,hl,hm,hmm,hx,hi⟩
 ·exact⟨[],⟨_,rfl,aE.nil_ _ _ _⟩,fun x hx=>by simp at hx,by simp,by simp⟩
 ·simp only [AS] at hx;obtain⟨rfl,rfl⟩:=hx;have hlm:len≤m:=by rw [hmm]; split <;> omega
  obtain⟨xs,h1,h2⟩:=FJ (α:=α) (Q:=fun i x=>Q x∧∃ cs,R.rel No w cs x∧∀ j u,cs[j]? = some u→w.cell? (a.add (i*R.size+j))=some u) len (fun i hil=>by
   obtain⟨cs',hcc,ht'⟩:=hi i (by omega);rw [hc] at hcc;obtain⟨x,hx,hq⟩:=ho ht' (fun k hk=>hw k (by
    simp only [DataW.weights,ht,cz,dz];exact .inr (.inl (AB (i:=i) (d:=D i) (by rw [uq,List.getElem?_range hil]; rfl) k hk))))
   obtain⟨_,hcl,hat⟩:=World.cells?_some hcc;refine⟨x,hq,cs',hx,fun j u hu=>?_⟩;have hj:j<R.size:=by rw [← hcl]; exact (bN.1 hu).1
   rw [← Go.Deep.add_add,hat j hj,hu])
  subst h1;refine⟨xs,⟨_,rfl,some a,cap,rfl,hl,hm,?_⟩,fun x hx=>?_,?_,fB hl hm⟩
  ·cases xs with
   | nil=>exact .inl rfl
   | cons x0 xs =>
    right;obtain⟨_,cs0,hr0,hc0⟩:=h2 0 x0 rfl;have hl0:=R.len hr0;have hu:=hc0 0 _ (bS (show 0<cs0.length by omega));obtain⟨b,off,spot⟩:=a;have hsp:spot=none:=by
     unfold World.cell? at hu;split at hu
     ·cases spot with
      | none=>rfl
      | some q=>simp [Addr.add] at hu
     ·simp at hu
    subst hsp;refine⟨b,off,rfl,fun k x hx=>?_⟩;obtain⟨_,cs,hr,hcs⟩:=h2 k x hx;refine⟨cs,hr,fun h=>h,?_,fun j u hu=>?_⟩
    ·rw [Addr.add_lit] at hu; exact World.block_lt_of_cell? _ _ hu
    ·have:=hcs j u hu;rwa [Addr.add_lit,← wc] at this
  ·obtain⟨i,hi',e⟩:=F4 hx;exact (h2 i x (by rw [← e]; exact bS hi')).1
  ·have:=hw ((xs.length+(m-xs.length))*P.bytesOf e) (by
    simp only [DataW.weights,ht,cz,qR,sg]
    first | exact .inl trivial | exact .inl rfl | trivial)
   exact fB (kQ _ (by omega)) this
theorem uA.arg {α:Type} {R:aY α} {Q:List α→Prop} {H:Type} {enc:TypeId×Value→H} {w:World} {base:Nat} {sp:Nat→Bool} {held:Bool} {v:Value} {d:DataW H} {p:List MemPlace} {ts:List TypeId} {ds:List (DataW H)} {j0:Nat}
  (ho:uA P t (aY.slice R) Q) (ht:P.underlying t=some (.slice e)) (hsz:(DataW.weightsEach P ts ds).all (·≤reachBytes)=true) (htj:ts[j0]? = some t) (hdj:ds[j0]? = some d)
  {r:Reach} {b0:Nat} (hv:Value.okWide P w r b0 t v) (h:DataW.Trod enc P w base sp held t v d p):∃ xs,aE R No w v xs∧Q xs:=by
 obtain⟨A,len,cap,rfl⟩:=okWide_slice ht hv;obtain⟨fuel,hf⟩:=h;obtain⟨xs,⟨v',he,hs⟩,hq⟩:=ho hf (fun m hm=>by
  have:=List.all_eq_true.1 hsz m (DataW.weights_mem_each htj hdj m hm);simpa using this)
 simp only [Value.cells,List.cons.injEq,and_true] at he;subst he;exact⟨xs,hs,hq⟩
end
end
section
open Go.ChangeShapes Go.WideShapes Go.ChangeAt Go.RowKit Go.Deep Go.Joins
def aY.unit:aY Unit where
 size:=0
 rel:=fun _ _ cs _=>cs=[]
 len:=by rintro _ _ _ _ rfl; rfl
 one:=by rintro _ _ _ _ rfl u hu; cases hu
 keep:=fun h _ _=>h
def wj {α:Type} (P:Program) (fs:List Field) (off:Nat) (R:aY α) (Q:α→Prop):Prop :=
 (∀ f∈fs,off≤f.offset) ∧
 ∀ {H:Type} {enc:TypeId×Value→H} {w:World} {base n:Nat} {sp:Nat→Bool} {held:Bool} {cs:bv} {xs:List (DataW H×List MemPlace)},cs.length=R.size→xs.length=fs.length →
  (∀ (i:Nat) (f:Field),fs[i]? = some f→DataW.trod enc P w base sp held n f.type ((cs.drop (f.offset-off)).take (P.cellsOf f.type))=xs[i]?) →
  (∀ m∈DataW.weightsEach P (fs.map (·.type)) (xs.map (·.1)),m≤reachBytes)→∃ x,R.rel No w cs x∧Q x
section
variable {P:Program} {t:TypeId}
theorem wj.nil (off:Nat):wj P [] off aY.unit (fun _=>True) :=
 ⟨fun f hf=>(by cases hf),fun {H enc w base n sp held cs xs} hl _ _ _=>⟨(),yN hl,trivial⟩⟩
theorem wj.cons {α β:Type} {R:aY α} {S:aY β} {Q:α→Prop} {Q2:β→Prop} {f:Field} {fs:List Field} {off:Nat} (ho:uA P f.type R Q) (hf:f.offset=off) (hc:P.cellsOf f.type=R.size) (h:wj P fs (off+R.size) S Q2):wj P (f::fs) off (R.prod S) (fun x=>Q x.1∧Q2 x.2):=by
 refine⟨fun g hg=>?_,fun {H enc w base n sp held cs xs} hl hx ht hw=>?_⟩
 ·rcases cz.1 hg with rfl | hg
  ·omega
  ·have:=h.1 g hg; omega
 ·cases xs with
  | nil=>simp at hx
  | cons y xs =>
   have hl:cs.length=R.size+S.size:=hl;have h0:=ht 0 f rfl;rw [hf,B2,B4,hc] at h0;obtain⟨x1,k1,k2⟩:=ho h0 (fun m hm=>hw m (by simp only [tE,DataW.weightsEach,dz]; exact .inl hm));obtain⟨x2,k3,k4⟩:=h.2 (H:=H) (enc:=enc) (w:=w) (base:=base) (n:=n) (sp:=sp) (held:=held) (cs:=cs.drop R.size) (xs:=xs) (by rw [sm]; omega) (by simpa using hx) (fun i g hg=>by
    have h1:=ht (i+1) g (by simpa using hg);have h2:=h.1 g (a6 hg);rw [List.drop_drop,show R.size+(g.offset-(off+R.size))=g.offset-off by omega];simpa using h1) (fun m hm=>hw m (by simp only [tE,DataW.weightsEach,dz]; exact .inr hm))
   exact⟨(x1,x2),⟨cs.take R.size,cs.drop R.size,(Gd _ _).symm,k1,k3⟩,k2,k4⟩
theorem uA.struct {α:Type} {R:aY α} {Q:α→Prop} {fs:Array Field} (ht:P.underlying t=some (.struct fs)) (hc:P.cellsOf t=R.size) (h:wj P fs.toList 0 R Q):uA P t R Q:=fun {H enc w base n sp held cs d p} h0 hw=>by
 obtain⟨xs,m,_,hx,hl,hlen,hf⟩:=DataW.trod_struct ht h0;simp only [AS] at hx;obtain⟨rfl,rfl⟩:=hx;refine h.2 (H:=H) (enc:=enc) (w:=w) (base:=base) (n:=m) (sp:=sp) (held:=held) (xs:=xs) (hl.trans hc) (by simpa using hlen) (fun i f hi=>?_) (fun k hk=>hw k ?_)
 ·have:=hf i f (by simpa using hi);simpa using this
 ·simp only [DataW.weights,ht];exact hk
theorem uA.via {α β:Type} {R:aY α} {S:aY β} {Q:α→Prop} {Q2:β→Prop} (ho:uA P t R Q) (g:α→β) (hr:∀ (T:Nat→Prop) (w:World) (cs:bv) (x:α),R.rel T w cs x→S.rel T w cs (g x)) (hq:∀ x,Q x→Q2 (g x)):uA P t S Q2:=fun h hw=>by
 obtain⟨x,h1,h2⟩:=ho h hw;exact⟨g x,hr _ _ _ _ h1,hq _ h2⟩
end
end
section
open Go
theorem Bx {P:Program} (h:P.funcs.any Func.goes=false) (f:FuncId):P.goes f=false:=by
 unfold Program.goes;rw [h,Bool.and_false,Bool.or_false];rw [Bool.eq_false_iff];intro hc;rw [Eh] at hc;obtain⟨g,_,hg⟩:=hc;cases hf:P.funcs[g]? with
 | none=>rw [hf] at hg; cases hg
 | some fn =>
  rw [hf] at hg;have:P.funcs.any Func.goes=true:=(KG).2 ⟨fn,Array.mem_of_getElem? hf,by simpa using hg⟩;rw [h] at this;cases this
theorem Dp {P:Program} (h:P.funcs.any Func.goes=false) (st:Start) (func:String):P.goesAt st func=false:=by
 have hf:P.goesFrom func=false:=by
  unfold Program.goesFrom;cases P.funcNamed func with
  | none=>rfl
  | some f=>exact Bx h f
 have hi:P.inits.toList.any P.goes=false:=by
  rw [Bool.eq_false_iff];intro hc;obtain⟨g,_,hg⟩:=Eh.1 hc;rw [Bx h g] at hg;cases hg
 unfold Program.goesAt;rw [hf,Bool.false_or];cases st <;> first | rfl | exact hi
end
end Go.Proofs.YtmfcloapbgfhaaaGreatDoor
