/- Texts of the proof, joined (0). -/
import Derived.Test.YtmfcloapbgfhaaaGreatDoorProg
import Derived.WalkKit
import Derived.WalkSpells
import Derived.WalkLawsBesides
import Derived.BigQuiet
import Derived.Deep.QuietTactic
import Derived.Deep.CutBlock
import Derived.Deep.DeepCutAuto
import Derived.Laws.OwnMore
import Derived.Laws.IdiomCopy
import Derived.ArgAppend
import Derived.Deep.Draws
import Derived.RegionTactic
import Derived.Deep.RegionWith
import Derived.Deep.RegionHeld3
import Derived.Deep.RegionLaw
import Derived.Laws.Rows
import Derived.Laws.Tables
import Derived.Laws.CopyRow
import Derived.Laws.MakeOwn
import Derived.Great.BuildSlice
import Derived.Orders
import Derived.Laws.Small
import Derived.Laws.StructEq
import Derived.Laws.Cover3
import Derived.WideLaws
import Derived.Lib.AppendStr
import Derived.Lib.ConvBytes
import Derived.Laws.BytesString
import Derived.Lib.SmallJoins
import Derived.Lib.ItoaNum
import Derived.Lib.AtoiAll
import Derived.Shelf.Small.Bits
import Derived.Shelf.Small.Strs
import Derived.Shelf.Small.Wraps
import Derived.Shelf.Strconv.Atoi
import Derived.Shelf.Strconv.Itoa0
import Derived.Shelf.Strconv.Itoa1
import Derived.Shelf.LaysM
import Derived.Shelf.Strconv.Itoa2
import Derived.Shelf.Strconv.Itoa3
import Derived.Shelf.Strconv.AtoiErrFast
import Derived.Shelf.Strconv.ParseIntEmpty
import Derived.Shelf.Strconv.AtoiFail
import Derived.Shelf.Strconv.Clone
import Derived.Shelf.Strconv.SyntaxError
import Derived.Shelf.LaysC
import Derived.Shelf.Strconv.ToError
import Derived.Shelf.Strconv.Lower
import Derived.Shelf.Strconv.ParseUint10
import Derived.Shelf.Strconv.ParseUint10Empty
import Derived.Shelf.Strconv.ParseUint10Any
import Derived.Shelf.Strconv.ParseInt10
import Derived.Shelf.Strconv.AtoiLong
import Derived.Shelf.Strconv.AtoiInnerAll
import Derived.Shelf.Strconv.RangeError
import Derived.Shelf.Strconv.ToErrorRange
import Derived.Shelf.Strconv.AtoiAll
import Derived.Shelf.Strconv.ErrVarAll
import Derived.Lib.AppendIntMem
import Derived.IntWalk
set_option linter.unusedVariables false
set_option linter.unusedSimpArgs false
set_option linter.unusedSectionVars false
namespace Go.Proofs.YtmfcloapbgfhaaaGreatDoor
section
open Go.RowKit
abbrev a6:=@List.mem_of_getElem?
abbrev xF:=@Nat.le_of_eq
abbrev fB:=@Nat.le_trans
abbrev tD:=@List.Pairwise.nil
abbrev fg:=@Option.some.injEq
abbrev o4:=@Nat.le_of_ble_eq_true
abbrev qR:=@List.length_map
abbrev fq:=@Option.some.inj
abbrev Eh:=@List.any_eq_true
abbrev KG:=@Array.any_eq_true'
abbrev cX:=@Nat.le_refl
abbrev xG:=@Nat.lt_of_lt_of_le
abbrev wc:=@Nat.add_assoc
abbrev cR:=@Nat.zero_le
abbrev bN:=@List.getElem?_eq_some_iff
abbrev cz:=@List.mem_cons
abbrev gn:=@List.not_mem_nil
abbrev cS:=@List.length_append
abbrev dz:=@List.mem_append
abbrev kf:=@Nat.add_mul
abbrev m6:=@List.getElem?_append_left
abbrev o5:=@List.getElem?_append_right
abbrev Ea:=@List.getElem?_cons_zero
abbrev tC:=@Nat.zero_add
abbrev F4:=@List.getElem_of_mem
abbrev bS:=@List.getElem?_eq_getElem
abbrev m7:=@List.getElem_mem
abbrev AO:=@Nat.mul_right_cancel
abbrev sh:=@Nat.add_zero
abbrev AP:=@Nat.eq_of_beq_eq_true
abbrev si:=@Array.getElem?_eq_some_iff
abbrev o6:=@List.pairwise_cons
abbrev AQ:=@Nat.lt_or_gt_of_ne
abbrev gG:=@List.pairwise_iff_getElem
abbrev Eb:=@List.getElem_set_ne
abbrev Jb:=@List.mem_of_mem_eraseIdx
abbrev kg:=@List.mem_iff_getElem?
abbrev AR:=@List.getElem?_eraseIdx
abbrev Ec:=@List.size_toArray
abbrev Ed:=@List.getElem?_cons_succ
abbrev Jc:=@Array.getD_eq_getD_getElem?
abbrev tE:=@List.map_cons
abbrev ax:=@Option.bind_some
abbrev AS:=@Prod.mk.injEq
abbrev yN:=@List.eq_nil_of_length_eq_zero
abbrev qV:=@List.getElem?_take
abbrev sj:=@List.getElem?_drop
abbrev Ee:=@Array.toList_inj
abbrev fe:=@List.length_take
abbrev sm:=@List.length_drop
abbrev xH:=@Array.getElem?_toList
abbrev Jd:=@List.getD_eq_getElem?_getD
abbrev gH:=@List.length_cons
abbrev vi:=@List.foldl_cons
abbrev F5:=@List.ext_getElem?
abbrev Ef:=@List.length_set
abbrev we:=@List.getElem?_set
abbrev so:=@Bool.and_eq_true
abbrev xI:=@Bool.or_eq_true
abbrev tF:=@Bool.not_eq_true'
abbrev yO:=@Array.getElem?_modify
abbrev o7:=@Option.map_some
abbrev kP:=@Nat.lt_or_ge
abbrev F6:=@Array.getElem?_eq_none
abbrev BX:=@Bool.or_eq_false_iff
abbrev F7:=@Bool.false_eq_true
abbrev gq:=@List.mem_map
abbrev iZ:=@List.mem_filter
abbrev eG:=@List.mem_singleton
abbrev F8:=@Option.bind_eq_some_iff
abbrev o8:=@List.mem_cons_of_mem
abbrev kh:=@List.mem_cons_self
abbrev BY:=@List.pairwise_singleton
abbrev yP:=@List.nodup_cons
abbrev uo:=@List.append_nil
abbrev uq:=@List.getElem?_map
abbrev F9:=@List.getElem_range
abbrev kQ:=@Nat.mul_le_mul_right
abbrev ur:=@List.map_append
abbrev AT:=@List.map_map
abbrev tG:=@List.getElem?_eq_none
abbrev tH:=@Int.toNat_natCast
abbrev BZ:=@List.map_toArray
abbrev yQ:=@List.map_nil
abbrev Ei:=@Nat.mul_eq_zero
abbrev n3:=@Array.getElem?_eq_getElem
abbrev AU:=@List.append_assoc
abbrev qC:=@List.mem_append_left
abbrev wh:=@List.mem_append_right
abbrev B0:=@List.getElem?_set_self
abbrev xJ:=@List.pairwise_append
abbrev B2:=@Nat.sub_self
abbrev Ga:=@Option.map_eq_some_iff
abbrev Gb:=@Array.getElem?_push_size
abbrev B3:=@Option.getD_some
abbrev sH:=@List.length_nil
abbrev B4:=@List.drop_zero
abbrev i6:=@List.take_length
abbrev Gc:=@List.take_of_length_le
abbrev Gd:=@List.take_append_drop
abbrev yp:=@Nat.le_mul_of_pos_right
abbrev tb:=@List.filter_eq_self
abbrev oX:=@List.filter_cons_of_pos
abbrev jV:=@List.filter_cons_of_neg
abbrev yq:=@List.filter_eq_nil_iff
abbrev CU:=@List.mem_of_mem_drop
abbrev ve:=@Exists.intro
abbrev Fe:=@Array.getElem?_append_left
abbrev AH:=@List.drop_length
abbrev CV:=@List.flatMap_cons
abbrev AI:=@List.nil_append
abbrev yr:=@Nat.eq_zero_or_pos
abbrev CW:=@Nat.pow_le_pow_right
abbrev dh:=@Bool.not_true
abbrev my:=@Bool.not_false
abbrev sg:=@List.length_range
abbrev vf:=@Bool.true_and
abbrev wO:=@List.any_eq_false
abbrev vg:=@List.mem_range
abbrev AJ:=@List.foldl_append
abbrev yt:=@Int.tmod_nonneg
abbrev yu:=@Int.tmod_lt_of_pos
abbrev yw:=@UInt8.not_lt
abbrev vh:=@List.mem_map_of_mem
abbrev AK:=@List.find?_eq_none
abbrev lh:=@List.filter_append
abbrev AL:=@List.Pairwise.filter
abbrev qQ:=@List.length_singleton
abbrev AN:=@List.Pairwise.imp
abbrev uf:=@List.length_filter_le
abbrev CX:=@Nat.testBit_lt_two_pow
abbrev CY:=@Nat.ble_eq_true_of_le
abbrev nM:=@Int.le_refl
abbrev bv:=List Value
noncomputable abbrev aP:=Tryz.prog
abbrev al (x:Int):Value:=.int .i64 x
abbrev aO (x:ByteArray):Value:=.string x
abbrev bI:ByteArray:=ByteArray.mk #[]
theorem sL {p:Prop} (h:p):Hid p:=h
def Dr (w w':World):Prop:=∃ n,w'=w.drewN n
structure C5 (P:Program) (t e:TypeId) (size bytes:Nat):Prop where
 ht:P.underlying t=some (.slice e)
 hi:∃ i z,P.info? e=some i∧i.zero=some z∧i.size=size∧i.bytes=bytes∧z.cells.size=size
 pos:0<size
section
variable {α:Type} {enc:α→bv} {size:Nat} {w w':World} {B B':Nat} {v:Value} {xs:List α}
end
def At (w:World) (A:Option Addr) (cs:bv):Prop:=cs=[]∨∃ b off,A=some ⟨b,off,none⟩∧∀ j u,cs[j]? = some u→w.cell? ⟨b,off+j,none⟩=some u
def AX (w:World) (g:Nat) (cs:Array Value) (e:TypeId):Prop:=∃ fz:Nat×Nat,w.heap[g]? = some (.cells cs e fz)∧(fz=(0,0)∨cs.size≤fz.1)
theorem AX.of {w:World} {g:Nat} {cs:Array Value} {e:TypeId} (h:w.heap[g]? = some (.cells cs e (0,0))):AX w g cs e:=⟨_,h,.inl rfl⟩
theorem AX.lt {w:World} {g:Nat} {cs:Array Value} {e:TypeId} (h:AX w g cs e):g<w.heap.size:=by
 obtain⟨fz,h1,_⟩:=h;exact (si.1 h1).1
theorem AX.eqb {w w':World} {g:Nat} {cs:Array Value} {e:TypeId} (h:AX w g cs e) (hb:w'.heap[g]? = w.heap[g]?):AX w' g cs e:=by
 obtain⟨fz,h1,h2⟩:=h;exact⟨fz,hb.trans h1,h2⟩
theorem AX.cell {w:World} {g:Nat} {cs:Array Value} {e:TypeId} (h:AX w g cs e) (o:Nat):w.cell? ⟨g,o,none⟩=cs[o]?:=by
 obtain⟨fz,h1,_⟩:=h;exact cell_of_row w g o cs e fz h1
theorem AX.free {w:World} {g:Nat} {cs:Array Value} {e:TypeId} (h:AX w g cs e) {o:Nat} (ho:o<cs.size):w.frozen? ⟨g,o,none⟩=false:=by
 obtain⟨fz,h1,h2⟩:=h;simp only [World.frozen?,h1];rcases h2 with rfl | h2
 ·simp
 ·simp; omega
def rj (w:World) (B:Nat) (e:TypeId) (size:Nat) (v:Value) (xs:bv):Prop :=
 (v = .slice none 0 0∧xs=[]) ∨
 ∃ g off n cap cs,v = .slice (some ⟨g,off,none⟩) n cap∧xs.length=n*size∧B≤g∧AX w g cs e∧n≤cap∧cap≤maxLen∧off+cap*size≤cs.size ∧
  ∀ j u,xs[j]? = some u→cs[off+j]? = some u
theorem eb (g:Nat) (e:TypeId) (fr:Nat×Nat):∀ (vs:bv) (o:Nat) (w:World) (cs:Array Value),w.heap[g]? = some (.cells cs e fr) →
  ∃ cs',(w.setCells g o vs).heap[g]? = some (.cells cs' e fr)∧cs'.size=cs.size∧(∀ j,(j<o∨o+vs.length≤j)→cs'[j]? = cs[j]?)∧(o+vs.length≤cs.size→∀ j u,vs[j]? = some u→cs'[o+j]? = some u)
 | [],o,w,cs,h=>⟨cs,h,rfl,fun _ _=>rfl,fun _ j u hu=>by simp at hu⟩
 | v::r,o,w,cs,h=>by
  have h1:(w.setCell ⟨g,o,none⟩ v).heap[g]? = some (.cells (cs.setIfInBounds o v) e fr):=by simp [World.setCell,yO,h]
  obtain⟨cs',a1,a2,a3,a4⟩:=eb g e fr r (o+1) _ _ h1;refine⟨cs',a1,by rw [a2]; simp,fun j hj=>?_,fun hl j u hu=>?_⟩
  ·rw [a3 j (by simp only [gH] at hj; omega),Array.getElem?_setIfInBounds,if_neg (by simp only [gH] at hj; omega)]
  ·simp only [gH] at hl;cases j with
   | zero =>
    simp only [Ea,fg] at hu;subst hu;rw [sh,a3 o (by omega),Array.getElem?_setIfInBounds,if_pos rfl,if_pos (by omega)]
   | succ j =>
    simp only [Ed] at hu;have:=a4 (by simp; omega) j u hu;rwa [show o+(j+1)=o+1+j by omega]
theorem oW (g:Nat):∀ (vs:bv) (o:Nat) (w:World) (k:Nat),k≠g→(w.setCells g o vs).heap[k]? = w.heap[k]?
 | [],_,_,_,_=>rfl
 | v::r,o,w,k,h=>by
  show ((w.setCell ⟨g,o,none⟩ v).setCells g (o+1) r).heap[k]? = _;rw [oW g r (o+1) _ k h]; exact Below.heap_setCell w _ v k h
theorem s8 (g:Nat):∀ (vs:bv) (o:Nat) (w:World),(w.setCells g o vs).heap.size=w.heap.size
 | [],_,_=>rfl
 | v::r,o,w=>by
  show ((w.setCell ⟨g,o,none⟩ v).setCells g (o+1) r).heap.size=_;rw [s8 g r (o+1) _]; simp [World.setCell]
theorem jh (g:Nat):∀ (vs:bv) (o:Nat) (w:World),(w.setCells g o vs).os=w.os∧(w.setCells g o vs).tape=w.tape∧(w.setCells g o vs).output=w.output
 | [],_,_=>⟨rfl,rfl,rfl⟩
 | v::r,o,w=>jh g r (o+1) (w.setCell ⟨g,o,none⟩ v)
theorem lY (w:World) (g o:Nat) (vs:bv):w.grownBy (w.setCells g o vs) (some g) :=
 ⟨(jh g vs o w).1,(jh g vs o w).2.1,(jh g vs o w).2.2,by rw [s8]; exact cX _,fun k _ hk=>oW g vs o w k (fun e=>hk (by rw [e]))⟩
section
variable {w w':World} {B B':Nat} {e:TypeId} {size:Nat} {v:Value} {xs:bv}
theorem rj.nil_ (w:World) (B:Nat) (e:TypeId) (size:Nat):rj w B e size (.slice none 0 0) []:=.inl ⟨rfl,rfl⟩
theorem rj.made (w:World) (B:Nat) (e:TypeId) (size:Nat) (cs:Array Value) (cap:Nat) (hB:B≤w.heap.size) (hs:cap*size≤cs.size) (hc:cap≤maxLen):rj (w.alloc (.cells cs e)) B e size (.slice (some ⟨w.heap.size,0,none⟩) 0 cap) [] :=
 .inr ⟨w.heap.size,0,0,cap,cs,rfl,by simp,hB,.of (heap_alloc_new w _),cR _,hc,by omega,fun j u hu=>by simp at hu⟩
theorem rj.lit (w:World) (B:Nat) (e:TypeId) (size:Nat) (cs:Array Value) (n:Nat) (hB:B≤w.heap.size) (hs:cs.size=n*size) (hc:n≤maxLen):rj (w.alloc (.cells cs e)) B e size (.slice (some ⟨w.heap.size,0,none⟩) n n) cs.toList :=
 .inr ⟨w.heap.size,0,n,n,cs,rfl,by simpa using hs,hB,.of (heap_alloc_new w _),cX _,hc,by omega,fun j u hu=>by simpa using hu⟩
theorem rj.blk (h:rj w B e size v xs):∀ k,v.ownBlock=some k→B≤k∧k<w.heap.size∧∃ cs,AX w k cs e:=by
 intro k hk;rcases h with⟨rfl,_⟩|⟨g,off,n,cap,cs,rfl,_,hb,hg,_⟩
 ·simp [Value.ownBlock] at hk
 ·simp [Value.ownBlock] at hk;subst hk;exact⟨hb,hg.lt,cs,hg⟩
theorem rj.form (h:rj w B e size v xs) (hs:0<size):∃ A n c,v = .slice A n c∧xs.length=n*size∧n≤c∧c≤maxLen∧At w A xs:=by
 rcases h with⟨rfl,rfl⟩|⟨g,off,n,cap,cs,rfl,h1,hb,hg,hnc,hc,hsz,hcs⟩
 ·exact⟨none,0,0,rfl,by simp,cX _,cR _,.inl rfl⟩
 ·refine⟨_,n,cap,rfl,h1,hnc,hc,.inr ⟨g,off,rfl,fun j u hu=>?_⟩⟩;rw [hg.cell];exact hcs j u hu
end
section
variable {P:Program}
theorem iM (w:World) (t ty e:TypeId) (i:TypeInfo) (ht:P.underlying t=some (.slice e)) (hi:P.info? e=some i) (A:Option Addr) (n cap c:Nat) (B:Option Addr) (hnc:n≤cap) :
  (Builtin.append_ #[t,t] ty #[.slice A n cap,.slice B 0 c]).run P w = .ok (.slice A n cap) w:=by
 cases A <;> cases B <;> simp [Builtin.append_,run_underlying ht,sizeOf,typeInfo,hi,Builtin.lenOf,Builtin.firstCells,hnc,storeCells,loadCells,loadCellsFrom]
theorem sf (w:World) (t ty e:TypeId) (size bytes:Nat) (E:C5 P t e size bytes) (B:Nat) (v:Value) (xs:bv) (hown:rj w B e size v xs)
  (A:Option Addr) (m c:Nat) (news:bv) (hl:news.length=m*size) (hat:At w A news) (h1:∀ u∈news,u.oneCell'=true)
  (h63:xs.length+news.length≤maxLen) (hbytes:(xs.length+news.length)*bytes≤140737488355328) (hbase:B≤w.heap.size) :
  ∃ v' w',(Builtin.append_ #[t,t] ty #[v,.slice A m c]).run P w = .ok v' w'∧rj w' B e size v' (xs++news)∧w.grownBy w' v.ownBlock∧(v'.ownBlock=v.ownBlock∨v'.ownBlock=some w.heap.size):=by
 obtain⟨ht,⟨i,z,hi,hz,hsize,hby,hzs⟩,hpos⟩:=E;subst hsize hby;by_cases hm:m=0
 ·subst hm;have hn:news=[]:=yN (by simpa using hl);subst hn;rcases hown with⟨rfl,rfl⟩|⟨g,off,n,cap,cs,rfl,a1,hb,hg,hnc,hc,hsz,hcs⟩
  ·exact⟨_,w,iM w t ty e i ht hi none 0 0 c A (cX _),.inl ⟨rfl,rfl⟩,World.grownBy.refl w _,.inl rfl⟩
  ·exact⟨_,w,iM w t ty e i ht hi _ n cap c A hnc,.inr ⟨g,off,n,cap,cs,rfl,by simpa using a1,hb,hg,hnc,hc,hsz,by simpa using hcs⟩,World.grownBy.refl w _,.inl rfl⟩
 ·have hne:news≠[]:=by rintro rfl; rw [sH] at hl; rcases Ei.1 hl.symm with h | h <;> omega
  obtain⟨sb,soff,rfl,hcell⟩:∃ b off,A=some ⟨b,off,none⟩∧∀ j u,news[j]? = some u→w.cell? ⟨b,off+j,none⟩=some u:=by
   rcases hat with h | h
   ·exact absurd h hne
   ·exact h
  have hcell':∀ j u,news[j]? = some u→w.cell? ((⟨sb,soff,none⟩:Addr).add j)=some u:=fun j u hu=>by rw [Addr.add_lit]; exact hcell j u hu
  have hmn:m≤news.length:=by rw [hl]; exact yp _ hpos
  have grown:∀ (old n:Nat),old<n+m→xs.length=n*i.size→n+m≤xs.length+news.length →
    rj (w.drew.alloc (.cells (xs.toArray++news.toArray++Builtin.zeroCells z.cells (grownCap w (n+m) old e-(n+m))) e)) B e i.size
     (.slice (some ⟨w.heap.size,0,none⟩) (n+m) (grownCap w (n+m) old e)) (xs++news):=by
   intro old n ho hx hle;have hge:=grownCap_ge w (n+m) old e;have hcm:grownCap w (n+m) old e≤maxLen:=grownCap_le_maxLen w (n+m) old e (by omega);refine .inr ⟨w.heap.size,0,n+m,_,_,rfl,by rw [cS,hx,hl,kf],hbase,.of (heap_alloc_new w.drew _),hge,hcm,?_,?_⟩
   ·simp only [Array.size_append,Ec,size_zeroCells,hzs,hx,hl,← kf];rw [tC];exact kQ _ (by omega)
   ·intro j u hu;rw [tC,Fe (by
     have:=(bN.1 hu).1;simpa using this)]
    simpa using hu
  rcases hown with⟨rfl,rfl⟩|⟨g,off,n,cap,cs,rfl,a1,hb,hg,hnc,hc,hsz,hcs⟩
  ·have hr:=run_append_nil (P:=P) w t ty e i z ht hi hz ⟨sb,soff,none⟩ m c news hl hcell' (by omega) (by simp only [maxLen] at h63; simp at h63; omega)
    (by
     have h2:m*i.bytes≤news.length*i.bytes:=kQ _ hmn;simp only [sH,tC] at hbytes;omega)
   have hgr:=grown 0 0 (by omega) (by simp) (by simp; omega);simp only [tC,AI,Array.empty_append] at hgr;exact⟨_,_,hr,hgr,⟨rfl,rfl,rfl,by simp,fun k hk _=>Below.heap_alloc w.drew _ k hk⟩,.inr rfl⟩
  ·have hnx:n≤xs.length:=by rw [a1]; exact yp _ hpos
   by_cases hroom:n+m≤cap
   ·have hfit:off+n*i.size+news.length≤cs.size:=by
     have:(n+m)*i.size≤cap*i.size:=kQ _ hroom;rw [hl]; rw [kf] at this; omega
    have hr:=run_append_room_cells (P:=P) w t ty e i ht hi g off n cap ⟨sb,soff,none⟩ m c news hl hcell' h1 hroom
     (fun j hj=>by rw [hg.cell,n3 (by omega)]; rfl)
     (fun j hj=>hg.free (by omega))
    obtain⟨fz,hg0,hfz⟩:=id hg;obtain⟨cs',c1,c2,c3,c4⟩:=eb g e fz news (off+n*i.size) w cs hg0;refine⟨_,_,hr,.inr ⟨g,off,n+m,cap,cs',rfl,by rw [cS,a1,hl,kf],hb,⟨fz,c1,by rw [c2]; exact hfz⟩,hroom,hc,by rw [c2]; exact hsz,fun j u hu=>?_⟩,lY w g _ news,.inl rfl⟩;by_cases hj:j<xs.length
    ·rw [m6 hj] at hu;rw [c3 _ (by omega)];exact hcs j u hu
    ·rw [o5 (by omega)] at hu;have:=c4 hfit (j-xs.length) u hu;rwa [show off+n*i.size+(j-xs.length)=off+j by omega] at this
   ·have hr:=run_append_grow (P:=P) w t ty e i z ht hi hz ⟨g,off,none⟩ n cap xs a1 (fun j u hu=>by rw [Addr.add_lit,hg.cell]; exact hcs j u hu)
     ⟨sb,soff,none⟩ m c news hl hcell' (by omega) (by simp only [maxLen] at h63; omega)
     (growslice_fits (by omega) (by
      have h2:(n+m)*i.bytes≤(xs.length+news.length)*i.bytes:=kQ _ (by omega);omega))
    have hgr:=grown cap n (by omega) a1 (by omega);exact⟨_,_,hr,hgr,⟨rfl,rfl,rfl,by simp,fun k hk _=>Below.heap_alloc w.drew _ k hk⟩,.inr rfl⟩
theorem wb (w:World) {o:Oper} {a:Act} {K:Act→World→Prop} {Q:Exit→Act→World→Prop} (s x:Operand) (t:TypeId)
  (ho:o.op = .call { callee:=.builtin .append,args:=#[s,x],argTypes:=#[t,t] })
  (e:TypeId) (size bytes:Nat) (E:C5 P t e size bytes) (B:Nat) (v:Value) (xs:bv) (hs:a.eval s=v) (hown:rj w B e size v xs)
  (A:Option Addr) (m c:Nat) (news:bv) (hx:a.eval x = .slice A m c) (hl:news.length=m*size) (hat:At w A news) (h1:∀ u∈news,u.oneCell'=true)
  (h63:xs.length+news.length≤maxLen) (hbytes:(xs.length+news.length)*bytes≤140737488355328) (hbase:B≤w.heap.size)
  (h:∀ v' w',rj w' B e size v' (xs++news)→w.grownBy w' v.ownBlock→(v'.ownBlock=v.ownBlock∨v'.ownBlock=some w.heap.size)→K (a.put o.dst v') w'):o.wp P a w K Q:=by
 obtain⟨v',w',hrun,h2,h3,h4⟩:=sf (P:=P) w t o.type e size bytes E B v xs hown A m c news hl hat h1 h63 hbytes hbase;unfold Oper.wp execOp;simp only [ho,resolve,invoke,builtin,Sem.run_bind,Sem.run_pure,Result.andThen_ok,BZ,tE,yQ,hs,hx,hrun];exact h v' w' h2 h3 h4
theorem AC (w:World) {ops:Array Oper} {rest:List Oper} {o:Oper} {a:Act} {Q:Exit→Act→World→Prop} (hgd:o.guard=none) (s x:Operand) (t:TypeId)
  (ho:o.op = .call { callee:=.builtin .append,args:=#[s,x],argTypes:=#[t,t] })
  (e:TypeId) (size bytes:Nat) (E:C5 P t e size bytes) (B:Nat) (v:Value) (xs:bv) (hs:a.eval s=v) (hown:rj w B e size v xs)
  (A:Option Addr) (m c:Nat) (news:bv) (hx:a.eval x = .slice A m c) (hl:news.length=m*size) (hat:At w A news) (h1:∀ u∈news,u.oneCell'=true)
  (h63:xs.length+news.length≤maxLen) (hbytes:(xs.length+news.length)*bytes≤140737488355328) (hbase:B≤w.heap.size)
  (h:∀ v' w',rj w' B e size v' (xs++news)→w.grownBy w' v.ownBlock→(v'.ownBlock=v.ownBlock∨v'.ownBlock=some w.heap.size)→wpList P ops Q rest (a.put o.dst v') w'):wpList P ops Q (o::rest) a w :=
 wpList_plain hgd fun _ hK=>wb w s x t ho e size bytes E B v xs hs hown A m c news hx hl hat h1 h63 hbytes hbase fun v' w' h2 h3 h4=>hK _ _ (h v' w' h2 h3 h4)
end
def La (w:World):Type:={ w':World // Below w.heap.size w w' }
instance La.some_ (w:World):Nonempty (La w):=⟨⟨w,Below.refl _ _⟩⟩
end
section
open Go.RowKit
structure Kt (T:Nat→Prop) (w w':World):Prop where
 os:w'.os=w.os
 tape:w'.tape=w.tape
 output:w'.output=w.output
 size:w.heap.size≤w'.heap.size
 block:∀ k,k<w.heap.size→¬ T k→w'.heap[k]? = w.heap[k]?
def No:Nat→Prop:=fun _=>False
theorem au (T:Nat→Prop) (w:World):Kt T w w:=⟨rfl,rfl,rfl,cX _,fun _ _ _=>rfl⟩
theorem Kt.trans {T:Nat→Prop} {a b c:World} (h:Kt T a b) (k:Kt T b c):Kt T a c :=
 ⟨k.os.trans h.os,k.tape.trans h.tape,k.output.trans h.output,fB h.size k.size,fun i hi hn=>(k.block i (xG hi h.size) hn).trans (h.block i hi hn)⟩
theorem Kt.mono {T T':Nat→Prop} {w w':World} (h:Kt T w w') (hT:∀ k,T k→T' k):Kt T' w w':=⟨h.os,h.tape,h.output,h.size,fun k hk hn=>h.block k hk (fun ht=>hn (hT k ht))⟩
theorem Kt.no {T:Nat→Prop} {w w':World} (h:Kt No w w'):Kt T w w':=h.mono fun _ h=>h.elim
theorem Kt.step {M T:Nat→Prop} {a b c:World} (h:Kt M a b) (k:Kt T b c) (hT:∀ k,T k→M k∨a.heap.size≤k):Kt M a c :=
 ⟨k.os.trans h.os,k.tape.trans h.tape,k.output.trans h.output,fB h.size k.size,fun i hi hn=>(k.block i (xG hi h.size) (fun ht=>by rcases hT i ht with h1 | h1; exact hn h1; omega)).trans (h.block i hi hn)⟩
theorem Kt.below {w w':World} (h:Kt No w w'):Below w.heap.size w w':=⟨h.os,h.tape,h.output,h.size,fun k hk=>h.block k hk (fun h=>h)⟩
theorem Kt.ofBelow {w w':World} (h:Below w.heap.size w w'):Kt No w w':=⟨h.os,h.tape,h.output,h.size,fun k hk _=>h.block k hk⟩
theorem Kt.drew (w:World):Kt No w w.drew:=⟨rfl,rfl,rfl,cX _,fun _ _ _=>rfl⟩
theorem Kt.drewN (w:World) (n:Nat):Kt No w (w.drewN n):=⟨rfl,rfl,rfl,cX _,fun _ _ _=>rfl⟩
theorem Kt.alloc (w:World) (o:Obj):Kt No w (w.alloc o):=⟨rfl,rfl,rfl,by simp,fun k hk _=>Below.heap_alloc w o k hk⟩
theorem Kt.setCells (w:World) (g o:Nat) (vs:bv):Kt (fun k=>k=g) w (w.setCells g o vs) :=
 ⟨(jh g vs o w).1,(jh g vs o w).2.1,(jh g vs o w).2.2,by rw [s8]; exact cX _,fun k _ hn=>oW g vs o w k hn⟩
theorem Kt.grown {w w':World} {row:Option Nat} (h:w.grownBy w' row):Kt (fun k=>row=some k) w w' :=
 ⟨h.os,h.tape,h.output,h.size,fun k hk hn=>h.block k hk (fun e=>hn e.symm)⟩
theorem Kt.cell {T:Nat→Prop} {w w':World} (h:Kt T w w') {p:Addr} (hl:p.block<w.heap.size) (hn:¬ T p.block):w'.cell? p=w.cell? p:=World.cell?_of_block (w:=w) (h.block _ hl hn)
def Nw (T T':Nat→Prop) (w:World):Prop:=∀ k,T' k→T k∨w.heap.size≤k
theorem Nw.refl (T:Nat→Prop) (w:World):Nw T T w:=fun _ h=>.inl h
structure cA where
 p:(Nat→Prop)→World→Prop
 keep:∀ {T T':Nat→Prop} {w w':World},p T w→Kt T w w'→Nw T T' w→p T' w'
structure aY (α:Type) where
 size:Nat
 rel:(Nat→Prop)→World→bv→α→Prop
 len:∀ {T w cs x},rel T w cs x→cs.length=size
 one:∀ {T w cs x},rel T w cs x→∀ u∈cs,u.oneCell'=true
 keep:∀ {T T':Nat→Prop} {w w':World} {cs x},rel T w cs x→Kt T w w'→Nw T T' w→rel T' w' cs x
def n8 (T:Nat→Prop) (w:World) (b o:Nat) (cs:bv):Prop:=¬ T b∧b<w.heap.size∧∀ j u,cs[j]? = some u→w.cell? ⟨b,o+j,none⟩=some u
theorem n8.keep {T T':Nat→Prop} {w w':World} {b o:Nat} {cs:bv} (h:n8 T w b o cs) (k:Kt T w w') (hn:Nw T T' w):n8 T' w' b o cs :=
 ⟨fun ht=>by rcases hn b ht with h1 | h1; exact h.1 h1; have:=h.2.1; omega,xG h.2.1 k.size,fun j u hu=>(k.cell (p:=⟨b,o+j,none⟩) h.2.1 h.1).trans (h.2.2 j u hu)⟩
def ln (b o:Nat) (cs:bv):cA:=⟨fun T w=>n8 T w b o cs,fun h k n=>h.keep k n⟩
theorem n8.sub {T:Nat→Prop} {w:World} {b o:Nat} {cs ds:bv} (k:Nat) (h:n8 T w b o cs) (hd:∀ j u,ds[j]? = some u→cs[k+j]? = some u):n8 T w b (o+k) ds :=
 ⟨h.1,h.2.1,fun j u hu=>by have:=h.2.2 (k+j) u (hd j u hu); rwa [← wc] at this⟩
def aE {α:Type} (R:aY α) (T:Nat→Prop) (w:World) (v:Value) (xs:List α):Prop :=
 ∃ A c,v = .slice A xs.length c∧xs.length≤c∧c≤maxLen ∧
  (xs=[]∨∃ b off,A=some ⟨b,off,none⟩∧∀ k x,xs[k]? = some x→∃ cs,R.rel T w cs x∧n8 T w b (off+k*R.size) cs)
theorem aE.keep {α:Type} {R:aY α} {T T':Nat→Prop} {w w':World} {v:Value} {xs:List α} (h:aE R T w v xs) (k:Kt T w w') (hn:Nw T T' w):aE R T' w' v xs:=by
 obtain⟨A,c,e,h1,h2,h3⟩:=h;refine⟨A,c,e,h1,h2,?_⟩;rcases h3 with h3 | ⟨b,off,e2,hc⟩
 ·exact .inl h3
 ·refine .inr ⟨b,off,e2,fun i x hx=>?_⟩;obtain⟨cs,ha,hb⟩:=hc i x hx;exact⟨cs,R.keep ha k hn,hb.keep k hn⟩
theorem aE.sub {α:Type} {R:aY α} {T T':Nat→Prop} {w:World} {v:Value} {xs:List α} (h:aE R T w v xs) (hn:Nw T T' w):aE R T' w v xs:=h.keep (au _ _) hn
theorem aE.nil_ {α:Type} (R:aY α) (T:Nat→Prop) (w:World):aE R T w (.slice none 0 0) []:=⟨none,0,rfl,cX _,cR _,.inl rfl⟩
theorem aE.one {α:Type} {R:aY α} {T:Nat→Prop} {w:World} {v:Value} {xs:List α} (h:aE R T w v xs):v.oneCell'=true:=by obtain⟨A,c,rfl,_⟩:=h; rfl
def aR {α:Type} (R:aY α) (v:Value) (xs:List α):cA:=⟨fun T w=>aE R T w v xs,fun h k n=>h.keep k n⟩
theorem aE.len {α:Type} {R:aY α} {T:Nat→Prop} {w:World} {v:Value} {xs:List α} (h:aE R T w v xs):∃ A c,v = .slice A xs.length c∧xs.length≤c∧c≤maxLen:=by obtain⟨A,c,e,h1,h2,_⟩:=h; exact⟨A,c,e,h1,h2⟩
def bu {α:Type} (xs:List α) (i:Int):Option α:=if 0≤i then xs[i.toNat]? else none
theorem gK {α:Type} {xs:List α} {i:Int} {x:α} (h:bu xs i=some x):0≤i∧i<xs.length∧xs[i.toNat]? = some x:=by
 unfold bu at h;split at h
 ·have:=(bN.1 h).1;exact⟨by omega,by omega,h⟩
 ·cases h
def aY.slice {α:Type} (R:aY α):aY (List α) where
 size:=1
 rel:=fun T w cs xs=>∃ v,cs=[v]∧aE R T w v xs
 len:=by rintro _ _ _ _ ⟨v,rfl,_⟩; rfl
 one:=by rintro _ _ _ _ ⟨v,rfl,h⟩ u hu; simp only [cz,gn,or_false] at hu; subst hu; exact h.one
 keep:=by rintro _ _ _ _ _ _ ⟨v,rfl,h⟩ k n; exact⟨v,rfl,h.keep k n⟩
def aY.int (k:IntKind):aY Int where
 size:=1
 rel:=fun _ _ cs x=>cs=[.int k x]
 len:=by rintro _ _ _ _ rfl; rfl
 one:=by rintro _ _ _ _ rfl u hu; simp only [cz,gn,or_false] at hu; subst hu; rfl
 keep:=fun h _ _=>h
def aY.bool:aY Bool where
 size:=1
 rel:=fun _ _ cs x=>cs=[.bool x]
 len:=by rintro _ _ _ _ rfl; rfl
 one:=by rintro _ _ _ _ rfl u hu; simp only [cz,gn,or_false] at hu; subst hu; rfl
 keep:=fun h _ _=>h
def aY.str:aY ByteArray where
 size:=1
 rel:=fun _ _ cs x=>cs=[.string x]
 len:=by rintro _ _ _ _ rfl; rfl
 one:=by rintro _ _ _ _ rfl u hu; simp only [cz,gn,or_false] at hu; subst hu; rfl
 keep:=fun h _ _=>h
def aY.prod {α β:Type} (R:aY α) (S:aY β):aY (α×β) where
 size:=R.size+S.size
 rel:=fun T w cs x=>∃ c d,cs=c++d∧R.rel T w c x.1∧S.rel T w d x.2
 len:=by rintro _ _ _ _ ⟨c,d,rfl,h1,h2⟩; rw [cS,R.len h1,S.len h2]
 one:=by rintro _ _ _ _ ⟨c,d,rfl,h1,h2⟩ u hu; rcases dz.1 hu with h | h; exact R.one h1 u h; exact S.one h2 u h
 keep:=by rintro _ _ _ _ _ _ ⟨c,d,rfl,h1,h2⟩ k n; exact⟨c,d,rfl,R.keep h1 k n,S.keep h2 k n⟩
def aA {α:Type} (R:aY α) (T:Nat→Prop) (w:World) (cl:bv) (xs:List α):Prop:=cl.length=xs.length*R.size∧∀ k x,xs[k]? = some x→∃ cs,R.rel T w cs x∧∀ j u,cs[j]? = some u→cl[k*R.size+j]? = some u
theorem aA.keep {α:Type} {R:aY α} {T T':Nat→Prop} {w w':World} {cl:bv} {xs:List α} (h:aA R T w cl xs) (k:Kt T w w') (hn:Nw T T' w):aA R T' w' cl xs :=
 ⟨h.1,fun i x hx=>by obtain⟨cs,h1,h2⟩:=h.2 i x hx; exact⟨cs,R.keep h1 k hn,h2⟩⟩
def an {α:Type} (R:aY α) (cl:bv) (xs:List α):cA:=⟨fun T w=>aA R T w cl xs,fun h k n=>h.keep k n⟩
theorem aA.nil_ {α:Type} (R:aY α) (T:Nat→Prop) (w:World):aA R T w [] []:=⟨by simp,fun k x hx=>by simp at hx⟩
theorem aA.append {α:Type} {R:aY α} {T:Nat→Prop} {w:World} {cl dl:bv} {xs ys:List α} (h:aA R T w cl xs) (k:aA R T w dl ys):aA R T w (cl++dl) (xs++ys):=by
 refine⟨by rw [cS,cS,h.1,k.1,kf],fun i x hx=>?_⟩;by_cases hi:i<xs.length
 ·rw [m6 hi] at hx;obtain⟨cs,h1,h2⟩:=h.2 i x hx;refine⟨cs,h1,fun j u hu=>?_⟩;have:=h2 j u hu;rw [m6 (bN.1 this).1]; exact this
 ·rw [o5 (by omega)] at hx;obtain⟨cs,h1,h2⟩:=k.2 _ x hx;refine⟨cs,h1,fun j u hu=>?_⟩;have:=h2 j u hu;have he:xs.length*R.size+((i-xs.length)*R.size+j)=i*R.size+j:=by
   rw [← wc,← kf]; congr 2; omega
  rw [o5 (by rw [h.1,← he]; omega),h.1,← he,Nat.add_sub_cancel_left];exact this
theorem aA.one_ {α:Type} {R:aY α} {T:Nat→Prop} {w:World} {cs:bv} {x:α} (h:R.rel T w cs x):aA R T w cs [x]:=by
 refine⟨by rw [R.len h]; simp,fun k y hy=>?_⟩;cases k with
 | zero=>simp only [Ea,fg] at hy; subst hy; exact⟨cs,h,fun j u hu=>by rw [Nat.zero_mul,tC]; exact hu⟩
 | succ k=>simp at hy
theorem aA.cell {α:Type} {R:aY α} {T:Nat→Prop} {w:World} {cl:bv} {xs:List α} (hs:0<R.size) (h:aA R T w cl xs):∀ u∈cl,u.oneCell'=true:=by
 intro u hu;obtain⟨i,hi,e⟩:=F4 hu;have hk:i / R.size<xs.length:=by rw [Nat.div_lt_iff_lt_mul hs,← h.1]; exact hi
 obtain⟨cs,h1,h2⟩:=h.2 _ _ (bS hk);have hl:=R.len h1;have hj:i % R.size<cs.length:=by rw [hl]; exact Nat.mod_lt _ hs
 have:=h2 _ _ (bS hj);rw [Nat.div_add_mod' i R.size,bS hi,e] at this;injection this with this;rw [this];exact R.one h1 _ (m7 hj)
theorem rj.rd {α:Type} {R:aY α} {T:Nat→Prop} {w:World} {B:Nat} {e:TypeId} {v:Value} {cl:bv} {xs:List α} (hs:0<R.size) (h:rj w B e R.size v cl) (hr:aA R T w cl xs) (hT:∀ k,v.ownBlock=some k→¬ T k):aE R T w v xs:=by
 rcases h with⟨rfl,rfl⟩|⟨g,off,n,cap,cs,rfl,h1,hb,hg,hnc,hc,hsz,hcs⟩
 ·have hl:=hr.1;have:xs=[]:=by
   cases xs with
   | nil=>rfl
   | cons x r=>simp [kf] at hl; omega
  subst this;exact aE.nil_ _ _ _
 ·have hn:n=xs.length:=AO hs (h1.symm.trans hr.1);subst hn;refine⟨_,cap,rfl,hnc,hc,.inr ⟨g,off,rfl,fun k x hx=>?_⟩⟩;obtain⟨ds,h2,h3⟩:=hr.2 k x hx;refine⟨ds,h2,hT g rfl,hg.lt,fun j u hu=>?_⟩;rw [hg.cell,wc];exact hcs _ u (h3 j u hu)
theorem aE.rows {α:Type} {R:aY α} {T:Nat→Prop} {w:World} {A:Option Addr} {n c:Nat} {xs:List α} (hs:0<R.size) (h:aE R T w (.slice A n c) xs):n=xs.length∧∃ cl,At w A cl∧aA R T w cl xs:=by
 obtain⟨A',c',e,h1,h2,h3⟩:=h;injection e with e1 e2 e3;subst e1 e2 e3;refine⟨rfl,?_⟩;rcases h3 with rfl | ⟨b,off,rfl,hc⟩
 ·exact⟨[],.inl rfl,aA.nil_ _ _ _⟩
 ·have key:∀ (ys:List α) (o:Nat),(∀ k x,ys[k]? = some x→∃ cs,R.rel T w cs x∧n8 T w b (o+k*R.size) cs)→∃ cl:bv,(∀ j u,cl[j]? = some u→w.cell? ⟨b,o+j,none⟩=some u)∧aA R T w cl ys:=by
   intro ys
   induction ys with
   | nil=>intro o _; exact⟨[],fun j u hu=>by simp at hu,aA.nil_ _ _ _⟩
   | cons y r ih =>
    intro o ho;obtain⟨cs,g1,g2⟩:=ho 0 y rfl;obtain⟨cl,g3,g4⟩:=ih (o+R.size) (fun k x hx=>by
     obtain⟨ds,g5,g6⟩:=ho (k+1) x (by simpa using hx);exact⟨ds,g5,by rwa [show o+(k+1)*R.size=o+R.size+k*R.size by rw [kf]; omega] at g6⟩)
    refine⟨cs++cl,fun j u hu=>?_,(aA.one_ g1).append g4⟩;have hl:=R.len g1;by_cases hj:j<cs.length
    ·rw [m6 hj] at hu;have:=g2.2.2 j u hu;rwa [Nat.zero_mul,sh] at this
    ·rw [o5 (by omega)] at hu;have:=g3 _ u hu;rwa [show o+R.size+(j-cs.length)=o+j by omega] at this
  obtain⟨cl,g1,g2⟩:=key xs off hc;exact⟨cl,.inr ⟨b,off,rfl,g1⟩,g2⟩
theorem aE.get {α:Type} {R:aY α} {T:Nat→Prop} {w:World} {v:Value} {xs:List α} (h:aE R T w v xs) {i:Int} {x:α} (hx:bu xs i=some x) :
  ∃ b o c,v = .slice (some ⟨b,o,none⟩) xs.length c∧xs.length≤c∧∃ cs,R.rel T w cs x∧n8 T w b (o+i.toNat*R.size) cs:=by
 obtain⟨hi0,hi1,hi2⟩:=gK hx;obtain⟨A,c,rfl,h1,h2,h3⟩:=h;rcases h3 with h3 | ⟨b,off,rfl,hc⟩
 ·subst h3; simp at hi1; omega
 ·exact⟨b,off,c,rfl,h1,hc _ _ hi2⟩
end
section
open Go.RowKit
theorem MS {a b:Nat} (h:¬ a=b):Nat.beq a b=false:=by
 cases hb:Nat.beq a b
 ·rfl
 ·exact absurd (AP hb) h
def lk:List (Nat×Value)→Nat→Option Value
 | [],_=>none
 | p::r,t=>cond (Nat.beq p.1 t) (some p.2) (lk r t)
structure AY where
 v:Value
 e:TypeId
 sz:Nat
 cl:bv
def AY.ok (w:World) (o:AY):Prop:=rj w 0 o.e o.sz o.v o.cl∧0<o.sz
inductive db where
 | grp (inn:List AY)
 | box (b:Nat) (cs:bv) (t:TypeId)
 | own (v:Value) (e:TypeId) (sz:Nat) (cl:bv)
 | obj (b:Nat) (o:Obj)
def db.dom:db→Nat→Prop
 | .box b _ _=>fun k=>some b=some k
 | .own v _ _ _=>fun k=>v.ownBlock=some k
 | .obj b _=>fun k=>some b=some k
 | .grp inn=>fun k=>∃ o∈inn,o.v.ownBlock=some k
def db.bare:db→Bool
 | .own (.slice none _ _) _ _ _=>true
 | _=>false
def db.ok (w:World):db→Prop
 | .box b cs t=>w.heap[b]? = some (.cells cs.toArray t (0,0))
 | .own v e sz cl=>rj w 0 e sz v cl∧0<sz
 | .obj b o=>w.heap[b]? = some o
 | .grp inn=>(∀ o∈inn,o.ok w)∧inn.Pairwise fun r s=>∀ k,r.v.ownBlock=some k→s.v.ownBlock≠some k
theorem db.bare_no {r:db} (h:r.bare=true):∀ k,¬ r.dom k:=by
 intro k hk;unfold db.bare at h;split at h
 ·cases hk
 ·cases h
theorem AY.lt {w:World} {o:AY} (h:o.ok w) {k:Nat} (hk:o.v.ownBlock=some k):k<w.heap.size:=(h.1.blk k hk).2.1
theorem AY.keep {w w':World} {o:AY} (h:o.ok w) (hk:∀ k,o.v.ownBlock=some k→w'.heap[k]? = w.heap[k]?):o.ok w':=by
 obtain⟨h1,h2⟩:=h;refine⟨?_,h2⟩;rcases h1 with h1 | ⟨g,off,n,cap,cs,q0,q1,q2,q3,rest⟩
 ·exact .inl h1
 ·exact .inr ⟨g,off,n,cap,cs,q0,q1,q2,q3.eqb (hk g (by rw [q0]; rfl)),rest⟩
def dT (T:Nat→Prop) (D:List db):Nat→Prop:=fun k=>T k∨∃ r∈D,r.dom k
theorem db.lt {w:World} {r:db} (h:r.ok w):∀ k,r.dom k→k<w.heap.size:=by
 intro k hk;cases r with
 | box b cs t=>simp only [db.dom,fg] at hk; subst hk; exact (si.1 h).1
 | own v e sz cl=>exact (h.1.blk k hk).2.1
 | obj b o=>simp only [db.dom,fg] at hk; subst hk; exact (si.1 h).1
 | grp inn=>obtain⟨o,ho,hk⟩:=hk; exact AY.lt (h.1 o ho) hk
theorem db.keep {w w':World} {r:db} (h:r.ok w) (hk:∀ k,r.dom k→w'.heap[k]? = w.heap[k]?):r.ok w':=by
 cases r with
 | box b cs t=>exact (hk b rfl).trans h
 | obj b o=>exact (hk b rfl).trans h
 | grp inn=>exact⟨fun o ho=>AY.keep (h.1 o ho) fun k hk2=>hk k ⟨o,ho,hk2⟩,h.2⟩
 | own v e sz cl =>
  obtain⟨h1,h2⟩:=h;refine⟨?_,h2⟩;rcases h1 with h1 | ⟨g,off,n,cap,cs,rfl,q1,q2,q3,rest⟩
  ·exact .inl h1
  ·exact .inr ⟨g,off,n,cap,cs,rfl,q1,q2,q3.eqb (hk g rfl),rest⟩
structure St (W:World) (M T:Nat→Prop) (n:Nat) (G:List (Nat×Value)) (D:List db) (F:List cA) (a:Act) (w:World):Prop where
 size:a.tmps.size=n
 defers:a.defers=[]
 slots:∀ t v,lk G t=some v→a.tmps[t]? = some v
 base:Kt M W w
 own:∀ r∈D,r.ok w
 free:∀ r∈D,∀ k,r.dom k→¬ T k∧(M k∨W.heap.size≤k)
 apart:D.Pairwise fun r s=>∀ k,r.dom k→¬ s.dom k
 facts:∀ f∈F,f.p (dT T D) w
 tlt:∀ k,T k→k<w.heap.size
section
variable {W:World} {M T:Nat→Prop} {n:Nat} {G G':List (Nat×Value)} {D D':List db} {F F':List cA} {a:Act} {w w':World}
theorem St.dlt (h:St W M T n G D F a w):∀ k,dT T D k→k<w.heap.size:=by
 rintro k (hk | ⟨r,hr,hk⟩)
 ·exact h.tlt k hk
 ·exact db.lt (h.own r hr) k hk
theorem St.put (h:St W M T n G D F a w) {d:Nat} (hd:Nat.blt d n=true) (v:Value):St W M T n ((d,v)::G) D F (a.put (some d) v) w:=by
 have hd:d<n:=o4 hd;refine⟨by simpa [Act.put] using h.size,h.defers,fun t u hu=>?_,h.base,h.own,h.free,h.apart,h.facts,h.tlt⟩;simp only [lk] at hu;by_cases e:d=t
 ·subst e;rw [show Nat.beq d d=true from by simp] at hu;simp only [cond_true,fg] at hu;subst hu;simp [Act.put,h.size,hd]
 ·rw [MS e] at hu;have:=h.slots t u hu;simp only [Act.put];rw [Array.getElem?_setIfInBounds_ne e]; exact this
theorem St.fact (h:St W M T n G D F a w) (f:cA) (hf:f.p (dT T D) w):St W M T n G D (f::F) a w :=
 ⟨h.size,h.defers,h.slots,h.base,h.own,h.free,h.apart,fun g hg=>by rcases cz.1 hg with rfl | hg; exact hf; exact h.facts g hg,h.tlt⟩
theorem St.get (h:St W M T n G D F a w) (i:Nat) {f:cA} (hi:F[i]? = some f):f.p (dT T D) w:=h.facts f (a6 hi)
theorem St.later (h:St W M T n G D F a w) (k:Kt No w w'):St W M T n G D F a w' :=
 ⟨h.size,h.defers,h.slots,h.base.step k (fun _ h=>h.elim),fun r hr=>db.keep (h.own r hr) fun j hj=>k.block j (db.lt (h.own r hr) j hj) (fun h=>h),h.free,h.apart,
  fun f hf=>f.keep (h.facts f hf) k.no (Nw.refl _ _),fun j hj=>xG (h.tlt j hj) k.size⟩
theorem Fx {T:Nat→Prop} {D:List db} {r:db} {k:Nat}:dT T (r::D) k↔dT T D k∨r.dom k:=by
 unfold dT;simp only [cz,exists_eq_or_imp];constructor
 ·rintro (h | h | h)
  ·exact .inl (.inl h)
  ·exact .inr h
  ·exact .inl (.inr h)
 ·rintro ((h | h) | h)
  ·exact .inl h
  ·exact .inr (.inr h)
  ·exact .inr (.inl h)
theorem St.add (h:St W M T n G D F a w) (k:Kt No w w') (r:db) (hr:r.ok w') (hn:∀ k,r.dom k→w.heap.size≤k):St W M T n G (r::D) F a w':=by
 have h':=h.later k;refine⟨h'.size,h'.defers,h'.slots,h'.base,?_,?_,?_,fun f hf=>f.keep (h.facts f hf) k.no (fun j hj=>?_),h'.tlt⟩
 ·intro s hs;rcases cz.1 hs with rfl | hs
  ·exact hr
  ·exact h'.own s hs
 ·intro s hs j hj;rcases cz.1 hs with rfl | hs
  ·have:=hn j hj;refine⟨fun ht=>?_,.inr ?_⟩
   ·have:=h.tlt j ht; omega
   ·have:=h.base.size; omega
  ·exact h'.free s hs j hj
 ·refine o6.2 ⟨fun s hs j hj hj2=>?_,h.apart⟩;have:=hn j hj;have:=db.lt (h.own s hs) j hj2;omega
 ·rcases Fx.1 hj with h1 | h1
  ·exact .inl h1
  ·exact .inr (hn j h1)
theorem St.alloc (h:St W M T n G D F a w) (cs:bv) (t:TypeId):St W M T n G (.box w.heap.size cs t::D) F a (w.alloc (.cells cs.toArray t)) :=
 h.add (Kt.alloc _ _) _ (heap_alloc_new w _) (fun k hk=>by simp only [db.dom,fg] at hk; omega)
theorem St.turn (h:St W M T n G D F a w) {i:Nat} {r r':db} (hi:D[i]? = some r) (k:Kt (fun j=>r.dom j) w w') (hr:r'.ok w') (hd:∀ j,r'.dom j→r.dom j∨w.heap.size≤j) :
  St W M T n G (D.set i r') F a w':=by
 have hmem:=a6 hi;have hlt:=(bN.1 hi).1;have hne:∀ j s,j≠i→D[j]? = some s→∀ q,s.dom q→¬ r.dom q:=by
  intro j s hj hs q hq hq2;have hjl:=(bN.1 hs).1;have e1:=(bN.1 hs).2;have e2:=(bN.1 hi).2;rcases AQ hj with hji | hji
  ·have:=gG.1 h.apart j i hjl hlt hji q (by rw [e1]; exact hq);rw [e2] at this; exact this hq2
  ·have:=gG.1 h.apart i j hlt hjl hji q (by rw [e2]; exact hq2);rw [e1] at this; exact this hq
 have qd:∀ s,s∈D.set i r'→s=r'∨∃ j,j≠i∧D[j]? = some s:=by
  intro s hs;obtain⟨j,hj,e⟩:=F4 hs;by_cases hji:i=j
  ·subst hji; rw [List.getElem_set_self] at e; exact .inl e.symm
  ·rw [Eb hji] at e;exact .inr ⟨j,fun e=>hji e.symm,by rw [← e]; exact bS _⟩
 refine⟨h.size,h.defers,h.slots,h.base.step k (fun j hj=>(h.free r hmem j hj).2),?_,?_,?_,fun f hf=>f.keep (h.facts f hf) (k.mono fun j hj=>.inr ⟨r,hmem,hj⟩) (fun j hj=>?_),fun j hj=>xG (h.tlt j hj) k.size⟩
 ·intro s hs;rcases qd s hs with rfl | ⟨j,hj,hs⟩
  ·exact hr
  ·have ho:=h.own s (a6 hs);exact db.keep ho fun q hq=>k.block q (db.lt ho q hq) (hne j s hj hs q hq)
 ·intro s hs q hq;rcases qd s hs with rfl | ⟨j,hj,hs⟩
  ·rcases hd q hq with h1 | h1
   ·exact h.free r hmem q h1
   ·refine⟨fun ht=>?_,.inr ?_⟩
    ·have:=h.tlt q ht; omega
    ·have:=h.base.size; omega
  ·exact h.free s (a6 hs) q hq
 ·rw [gG];intro x y hx hy hxy q hq hq2;have hx':x<D.length:=by simpa using hx
  have hy':y<D.length:=by simpa using hy
  have old:∀ z (hz:z<D.length),D[z].dom q→q<w.heap.size:=fun z hz e=>db.lt (h.own _ (m7 hz)) q e;by_cases h1:i=x
  ·subst h1;rw [List.getElem_set_self] at hq;rw [Eb (by omega)] at hq2;rcases hd q hq with h2 | h2
   ·exact hne y _ (by omega) (bS hy') q hq2 h2
   ·have:=old y hy' hq2; omega
  ·by_cases h2:i=y
   ·subst h2;rw [List.getElem_set_self] at hq2;rw [Eb h1] at hq;rcases hd q hq2 with h3 | h3
    ·exact hne x _ (by omega) (bS hx') q hq h3
    ·have:=old x hx' hq; omega
   ·rw [Eb h1] at hq;rw [Eb h2] at hq2;exact gG.1 h.apart x y hx' hy' hxy q hq hq2
 ·rcases hj with hj | ⟨s,hs,hj⟩
  ·exact .inl (.inl hj)
  ·rcases qd s hs with rfl | ⟨z,hz,hs⟩
   ·rcases hd j hj with h1 | h1
    ·exact .inl (.inr ⟨r,hmem,h1⟩)
    ·exact .inr h1
   ·exact .inl (.inr ⟨s,a6 hs,hj⟩)
theorem St.res (h:St W M T n G D F a w) {D':List db} (hs:∀ r∈D',r∈D) (hp:D'.Pairwise fun r s=>∀ k,r.dom k→¬ s.dom k):St W M T n G D' F a w :=
 ⟨h.size,h.defers,h.slots,h.base,fun r hr=>h.own r (hs r hr),fun r hr=>h.free r (hs r hr),hp,fun f hf=>f.keep (h.facts f hf) (au _ _) (fun k hk=>.inl (by
  rcases hk with hk | ⟨r,hr,hk⟩
  ·exact .inl hk
  ·exact .inr ⟨r,hs r hr,hk⟩)),h.tlt⟩
theorem St.drop (h:St W M T n G D F a w) (i:Nat):St W M T n G (D.eraseIdx i) F a w :=
 h.res (fun r hr=>Jb hr) (h.apart.sublist (List.eraseIdx_sublist _ _))
def KL (G:List (Nat×Value)):List (Nat×Value)→Prop
 | []=>True
 | p::r=>lk G p.1=some p.2∧KL G r
theorem KL.lk_ {G:List (Nat×Value)}:∀ {G':List (Nat×Value)},KL G G'→∀ t v,lk G' t=some v→lk G t=some v
 | [],_,t,v,hv=>by simp [lk] at hv
 | p::r,h,t,v,hv=>by
  simp only [lk] at hv;by_cases e:p.1=t
  ·subst e;rw [show Nat.beq p.1 p.1=true from by simp] at hv;simp only [cond_true,fg] at hv;subst hv; exact h.1
  ·rw [MS e] at hv;exact KL.lk_ h.2 t v hv
theorem St.slot (h:St W M T n G D F a w) (hs:KL G G'):St W M T n G' D F a w :=
 ⟨h.size,h.defers,fun t v hv=>h.slots t v (hs.lk_ t v hv),h.base,h.own,h.free,h.apart,h.facts,h.tlt⟩
theorem St.sel (h:St W M T n G D F a w) (hs:∀ f∈F',f∈F):St W M T n G D F' a w :=
 ⟨h.size,h.defers,h.slots,h.base,h.own,h.free,h.apart,fun f hf=>h.facts f (hs f hf),h.tlt⟩
theorem St.freeze {α:Type} {R:aY α} {v:Value} {e:TypeId} {cl:bv} {xs:List α} (h:St W M T n G D F a w) (i:Nat) (hi:D[i]? = some (.own v e R.size cl)) (j:Nat) (hj:F[j]? = some (an R cl xs)):St W M T n G (D.eraseIdx i) (aR R v xs::F) a w:=by
 have hlt:=(bN.1 hi).1;have hD:=(bN.1 hi).2;obtain⟨ho,hs⟩:=h.own _ (a6 hi);have hr:aA R (dT T D) w cl xs:=h.get j hj;have h2:=h.drop i;refine h2.fact _ ?_;refine rj.rd hs ho (hr.keep (au _ _) (fun k hk=>.inl ?_)) (fun k hk hT=>?_)
 ·rcases hk with hk | ⟨r,hr,hk⟩
  ·exact .inl hk
  ·exact .inr ⟨r,Jb hr,hk⟩
 ·rcases hT with hT | ⟨s,hs,hT⟩
  ·exact (h.free _ (a6 hi) k hk).1 hT
  ·obtain⟨z,hz⟩:=kg.1 hs;rw [AR] at hz;split at hz
   ·rename_i hzi;have hzl:=(bN.1 hz).1;have:=gG.1 h.apart z i hzl hlt hzi k (by rw [(bN.1 hz).2]; exact hT);rw [hD] at this; exact this hk
   ·rename_i hzi;have hzl:=(bN.1 hz).1;have:=gG.1 h.apart i (z+1) hlt hzl (by omega) k (by rw [hD]; exact hk);rw [(bN.1 hz).2] at this; exact this hT
end
theorem St.start (W:World) (M T:Nat→Prop) (n:Nat) (vs:bv) (hT:∀ k,T k→k<W.heap.size) (hn:vs.length≤n) (G:List (Nat×Value)) (hG:∀ t v,lk G t=some v→vs[t]? = some v) :
  St W M T n G [] [] { tmps:=vs.toArray++Array.replicate (n-vs.toArray.size) undef,defers:=[] } W:=by
 refine⟨by simp; omega,rfl,fun t v hv=>?_,au _ _,fun r hr=>(by cases hr),fun r hr=>(by cases hr),tD,fun f hf=>(by cases hf),hT⟩;have h1:=hG t v hv;have h2:=(bN.1 h1).1;simp only [Array.getElem?_append,Ec,h2,if_true,List.getElem?_toArray];exact h1
def mz:Nat→bv→List (Nat×Value)
 | _,[]=>[]
 | k,v::r=>(k,v)::mz (k+1) r
theorem y9:∀ (vs:bv) (k t:Nat) (v:Value),lk (mz k vs) t=some v→k≤t∧vs[t-k]? = some v
 | [],k,t,v,h=>by simp [mz,lk] at h
 | u::r,k,t,v,h=>by
  simp only [mz,lk] at h;by_cases e:k=t
  ·subst e;rw [show Nat.beq k k=true from by simp] at h;simp only [cond_true,fg] at h;subst h; simp
  ·rw [MS e] at h;obtain⟨h1,h2⟩:=y9 r (k+1) t v h;refine⟨by omega,?_⟩;rw [show t-k=(t-(k+1))+1 by omega,Ed]; exact h2
def bj (P:Program) (M:Nat→Prop) (f:FuncId) (args:bv) (w:World) (R:Value→World→Prop):Prop :=
 Calls P f args.toArray w fun e w'=>∃ v,e = .returned v∧Kt M w w'∧R v w'
def Np (M:Nat→Prop) (W:World) (R:Value→World→Prop):Ending→World→Prop:=fun e w'=>∃ v,e = .returned v∧Kt M W w'∧R v w'
theorem enter {P:Program} {M:Nat→Prop} {f:FuncId} {fn:Func} {c:Code} {args:bv} {w:World} {R:Value→World→Prop} (hf:P.funcs[f]? = some fn) (hb:fn.body=some c)
  (T:Nat→Prop) (n:Nat) (hn:fn.ntmps=n) (hT:∀ k,T k→k<w.heap.size) (hl:Nat.ble args.length n=true)
  (h:∀ a,St w M T n (mz 0 args) [] [] a w→c.wp P (bodyPost P fn (Np M w R)) a w):bj P M f args w R:=by
 refine calls_of_wp hf hb (h _ ?_);subst hn;exact St.start w M T _ args hT (o4 hl) _ fun t v hv=>by
  obtain⟨h1,h2⟩:=y9 args 0 t v hv;simpa using h2
end
section
open Go.RowKit
variable {pos:String} {af:Array Edge} {g:Option (Nat×Bool)}
def ev (G:List (Nat×Value)):Operand→Option Value
 | .tmp t=>lk G t
 | .const v=>some v
 | .func f=>some (.func (.func f) #[] #[])
 | .global g=>some (.pointer (some ⟨g,0,none⟩))
def evs (G:List (Nat×Value)):List Operand→Option (bv)
 | []=>some []
 | x::r=>match ev G x with
  | some v=>match evs G r with
   | some vs=>some (v::vs)
   | none=>none
  | none=>none
def qT (P:Program) (o:Oper) (a:Act) (w:World) (K:Act→World→Prop):Prop:=∀ (K':Act→World→Prop) (Q:Exit→Act→World→Prop),(∀ a w,K a w→K' a w)→o.wp P a w K' Q
def Ye (P:Program) (o:Oper) (a:Act) (E:Nat→Prop) (w:World) (v:Value):Prop:=∀ w',Kt E w w'→(execOp a.eval o).run P w' = .ok (.value v) w'
def n7 (P:Program) (t:TypeId):Option (Bool×Nat) :=
 match P.underlying t,P.info? t with
 | some (.struct _),some i=>some (true,i.size)
 | some (.array _ _),some i=>some (true,i.size)
 | some _,some i=>some (false,i.size)
 | _,_=>none
def fi (P:Program) (s:TypeId) (f:Nat):Option Nat :=
 match P.underlying s with
 | some (.struct fs)=>match fs[f]? with
  | some d=>match P.info? d.type with
   | some i=>if i.size=0 then none else some d.offset
   | none=>none
  | none=>none
 | _=>none
section
variable {P:Program} {W:World} {M T E:Nat→Prop} {n:Nat} {G G':List (Nat×Value)} {D D':List db} {F F':List cA} {a:Act} {w w':World} {K:Act→World→Prop}
theorem St.ev (h:St W M T n G D F a w) {x:Operand} {v:Value} (hx:ev G x=some v):a.eval x=v:=by
 cases x with
 | tmp t =>
  have:=h.slots t v hx;simp [Act.eval,Jc,this]
 | const u=>simp only [Proofs.YtmfcloapbgfhaaaGreatDoor.ev,fg] at hx; exact hx
 | func f=>simp only [Proofs.YtmfcloapbgfhaaaGreatDoor.ev,fg] at hx; exact hx
 | global g=>simp only [Proofs.YtmfcloapbgfhaaaGreatDoor.ev,fg] at hx; exact hx
theorem St.evs (h:St W M T n G D F a w):∀ {xs:List Operand} {vs:bv},evs G xs=some vs→xs.map a.eval=vs
 | [],vs,hx=>by simp only [Proofs.YtmfcloapbgfhaaaGreatDoor.evs,fg] at hx; subst hx; rfl
 | x::r,vs,hx=>by
  simp only [Proofs.YtmfcloapbgfhaaaGreatDoor.evs] at hx;cases h1:Proofs.YtmfcloapbgfhaaaGreatDoor.ev G x with
  | none=>rw [h1] at hx; cases hx
  | some v =>
   cases h2:Proofs.YtmfcloapbgfhaaaGreatDoor.evs G r with
   | none=>rw [h1,h2] at hx; cases hx
   | some us =>
    rw [h1,h2] at hx;simp only [fg] at hx;subst hx;rw [tE,h.ev h1,h.evs h2]
theorem wl {ops:Array Oper} {Q:Exit→Act→World→Prop} {rest:List Oper} {o:Oper} (hg:o.guard=none) (h:qT P o a w (wpList P ops Q rest)):wpList P ops Q (o::rest) a w :=
 wpList_plain hg fun K hK=>h K Q hK
theorem rB {ops:Array Oper} {o:Oper} {j t:Nat} {want c:Bool} (h:St W M T n G D F a w) (hg:o.guard=some (j,want)) (hj:(ops[j]?).bind (·.dst)=some t) (ht:lk G t=some (.bool c)):Region.wanted o (yielded ops a.tmps)=(c==want):=by
 have h1:=h.slots t _ ht;unfold Region.wanted yielded;rw [hg];simp only [hj,ax,h1];cases c <;> cases want <;> rfl
theorem wg {ops:Array Oper} {Q:Exit→Act→World→Prop} {rest:List Oper} {o:Oper} {j t:Nat} {want c:Bool} (hS:St W M T n G D F a w) (hg:o.guard=some (j,want)) (hj:(ops[j]?).bind (·.dst)=some t) (ht:lk G t=some (.bool c)) (hc:c=want) (h:qT P o a w (wpList P ops Q rest)):wpList P ops Q (o::rest) a w :=
 wpList_step fun K hK=>by rw [if_pos (by rw [rB hS hg hj ht,hc]; simp)]; exact h K Q hK
theorem wn {ops:Array Oper} {Q:Exit→Act→World→Prop} {rest:List Oper} {o:Oper} {j t d:Nat} {want c:Bool} (hS:St W M T n G D F a w) (hg:o.guard=some (j,want)) (hj:(ops[j]?).bind (·.dst)=some t) (ht:lk G t=some (.bool c)) (hc:c = !want) (hd:o.dst=some d) (hn:Nat.blt d n=true)
  (h:∀ a,St W M T n ((d,undef)::G) D F a w→wpList P ops Q rest a w):wpList P ops Q (o::rest) a w :=
 wpList_step fun K hK=>by rw [if_neg (by rw [rB hS hg hj ht,hc]; cases want <;> simp)]; rw [hd]; exact hK _ _ (h _ (hS.put hn _))
theorem Rj {ops:Array Oper} {Q:Exit→Act→World→Prop} {rest:List Oper} {o:Oper} {j t d:Nat} {want:Bool} (hS:St W M T n G D F a w) (hg:o.guard=some (j,want)) (hj:(ops[j]?).bind (·.dst)=some t) (ht:lk G t=some undef) (hd:o.dst=some d) (hn:Nat.blt d n=true)
  (h:∀ a,St W M T n ((d,undef)::G) D F a w→wpList P ops Q rest a w):wpList P ops Q (o::rest) a w :=
 wpList_step fun K hK=>by
  have h1:=hS.slots t _ ht;have h2:Region.wanted o (yielded ops a.tmps)=false:=by
   unfold Region.wanted yielded;rw [hg];simp only [hj,ax,h1];rfl
  rw [if_neg (by rw [h2]; simp),hd]; exact hK _ _ (h _ (hS.put hn _))
theorem Ye.k {o:Oper} {v:Value} (h:Ye P o a E w v):qT P o a w (fun a' w'=>a'=a.put o.dst v∧w'=w):=fun K' Q hK=>by
 unfold Oper.wp;rw [h w (au _ _),Oper.upon_value];exact hK _ _ ⟨rfl,rfl⟩
theorem qT.mono {o:Oper} {K':Act→World→Prop} (h:qT P o a w K) (hk:∀ a w,K a w→K' a w):qT P o a w K':=fun K2 Q h2=>h K2 Q fun a w ha=>h2 a w (hk a w ha)
theorem ky {o:Oper} {v:Value} {d:Nat} (hS:St W M T n G D F a w) (h:Ye P o a No w v) (hd:o.dst=some d) (hn:Nat.blt d n=true) (k:∀ a,St W M T n ((d,v)::G) D F a w→K a w):qT P o a w K :=
 h.k.mono fun a' w' ⟨h1,h2⟩=>by subst h1 h2; rw [hd]; exact k _ (hS.put hn v)
theorem wy {ops:Array Oper} {Q:Exit→Act→World→Prop} {rest:List Oper} {o:Oper} {v:Value} {d:Nat} (hS:St W M T n G D F a w) (h:Ye P o a No w v) (hg:o.guard=none) (hd:o.dst=some d) (hn:Nat.blt d n=true) (k:∀ a,St W M T n ((d,v)::G) D F a w→wpList P ops Q rest a w):wpList P ops Q (o::rest) a w :=
 wl hg (ky hS h hd hn k)
theorem Ye.of {o:Oper} {v:Value} (h:∀ w,(execOp a.eval o).run P w = .ok (.value v) w):Ye P o a E w v:=fun w' _=>h w'
theorem Ja {d:Option Nat} {x:Operand} {ty:TypeId} {v:Value} (hS:St W M T n G D F a w) (hx:ev G x=some v):Ye P ⟨d,.move x,ty,pos,af,g⟩ a E w v :=
 Ye.of fun w=>by simp only [execOp,Sem.run_pure,hS.ev hx]
theorem D7 {d:Option Nat} {x:Operand} {ty:TypeId} {v:Value} (hS:St W M T n G D F a w) (hx:ev G x=some v):Ye P ⟨d,.assign x,ty,pos,af,g⟩ a E w v :=
 Ye.of fun w=>by simp only [execOp,Sem.run_pure,hS.ev hx]
theorem KE {d:Option Nat} {c x y:Operand} {ty:TypeId} {v:Value} {b:Bool} (hS:St W M T n G D F a w) (hc:ev G c=some (.bool b)) (hb:b=true) (hv:ev G x=some v):Ye P ⟨d,.pick c x y,ty,pos,af,g⟩ a E w v :=
 Ye.of fun w=>by simp [execOp,hS.ev hc,hS.ev hv,asBool,hb]
theorem KD {d:Option Nat} {c x y:Operand} {ty:TypeId} {v:Value} {b:Bool} (hS:St W M T n G D F a w) (hc:ev G c=some (.bool b)) (hb:b=false) (hv:ev G y=some v):Ye P ⟨d,.pick c x y,ty,pos,af,g⟩ a E w v :=
 Ye.of fun w=>by simp [execOp,hS.ev hc,hS.ev hv,asBool,hb]
def MJ:BinOp→IntKind→Int→Int→Option Value
 | .add,k,x,y=>some (.int k (k.wrap (x+y)))
 | .sub,k,x,y=>some (.int k (k.wrap (x-y)))
 | .mul,k,x,y=>some (.int k (k.wrap (x*y)))
 | .eql,_,x,y=>some (.bool (x==y))
 | .neq,_,x,y=>some (.bool (x != y))
 | .lss,_,x,y=>some (.bool (decide (x<y)))
 | .leq,_,x,y=>some (.bool (decide (x≤y)))
 | .gtr,_,x,y=>some (.bool (decide (y<x)))
 | .geq,_,x,y=>some (.bool (decide (y≤x)))
 | _,_,_,_=>none
theorem D9 {d:Option Nat} {op:BinOp} {t t':TypeId} {x y:Operand} {ty:TypeId} {v:Value} {k:IntKind} {p q:Int} (hS:St W M T n G D F a w)
  (hx:ev G x=some (.int k p)) (hy:ev G y=some (.int k q)) (hv:MJ op k p q=some v):Ye P ⟨d,.binOp op t x y t',ty,pos,af,g⟩ a E w v :=
 Ye.of fun w=>by
  have h1:=hS.ev hx;have h2:=hS.ev hy;cases op <;> simp only [MJ,fg,reduceCtorEq] at hv <;> subst hv <;> simp [execOp,h1,h2,eqGuard,binOp,Op.intArith,Op.intCmp]
theorem BW {d:Option Nat} {t t':TypeId} {x y:Operand} {ty:TypeId} {k:IntKind} {p q:Int} (hS:St W M T n G D F a w)
  (hx:ev G x=some (.int k p)) (hy:ev G y=some (.int k q)) (hq:q≠0):Ye P ⟨d,.binOp .rem t x y t',ty,pos,af,g⟩ a E w (.int k (p.tmod q)) :=
 Ye.of fun w=>by
  have h1:=hS.ev hx;have h2:=hS.ev hy;simp [execOp,h1,h2,eqGuard,binOp,Op.intDiv,hq]
theorem OU {d:Option Nat} {t t':TypeId} {x y:Operand} {ty:TypeId} {k:IntKind} {p q:Int} (hS:St W M T n G D F a w)
  (hx:ev G x=some (.int k p)) (hy:ev G y=some (.int k q)) (hq:q≠0):Ye P ⟨d,.binOp .quo t x y t',ty,pos,af,g⟩ a E w (.int k (k.wrap (p.tdiv q))) :=
 Ye.of fun w=>by
  have h1:=hS.ev hx;have h2:=hS.ev hy;simp [execOp,h1,h2,eqGuard,binOp,Op.intDiv,hq]
def M1:BinOp→ByteArray→ByteArray→Option Value
 | .eql,x,y=>some (.bool (x.toList==y.toList))
 | .neq,x,y=>some (.bool !(x.toList==y.toList))
 | .lss,x,y=>some (.bool (Op.bytesLess x.toList y.toList))
 | .gtr,x,y=>some (.bool !(Op.bytesLess x.toList y.toList||x.toList==y.toList))
 | _,_,_=>none
theorem OW {d:Option Nat} {op:BinOp} {t t':TypeId} {x y:Operand} {ty:TypeId} {v:Value} {p q:ByteArray} (hS:St W M T n G D F a w)
  (hx:ev G x=some (.string p)) (hy:ev G y=some (.string q)) (hv:M1 op p q=some v):Ye P ⟨d,.binOp op t x y t',ty,pos,af,g⟩ a E w v :=
 Ye.of fun w=>by
  have h1:=hS.ev hx;have h2:=hS.ev hy;cases op <;> simp only [M1,fg,reduceCtorEq] at hv <;> subst hv <;> simp [execOp,h1,h2,eqGuard,binOp,Op.stringOp]
theorem OP {d:Option Nat} {t t':TypeId} {x y:Operand} {ty:TypeId} {p q:ByteArray} (hS:St W M T n G D F a w)
  (hx:ev G x=some (.string p)) (hy:ev G y=some (.string q)) (hz:p.size+q.size≤140737488355328):Ye P ⟨d,.binOp .add t x y t',ty,pos,af,g⟩ a E w (.string (p++q)) :=
 Ye.of fun w=>by
  have h1:=hS.ev hx;have h2:=hS.ev hy;have h3:¬ (((p.size+q.size:Nat):Int)>IntKind.i64.max):=by
   have:IntKind.i64.max=9223372036854775807:=rfl;omega
  simp only [execOp,h1,h2,eqGuard,binOp,Op.stringOp,if_neg h3];simp
theorem OT {d:Option Nat} {t:TypeId} {x:Operand} {ty:TypeId} {b:Bool} (hS:St W M T n G D F a w) (hx:ev G x=some (.bool b)):Ye P ⟨d,.unOp .not t x,ty,pos,af,g⟩ a E w (.bool !b) :=
 Ye.of fun w=>by simp [execOp,hS.ev hx,Op.unary]
theorem OR {d:Option Nat} {t:TypeId} {x:Operand} {ty:TypeId} {k:IntKind} {p:Int} (hS:St W M T n G D F a w) (hx:ev G x=some (.int k p)):Ye P ⟨d,.unOp .neg t x,ty,pos,af,g⟩ a E w (.int k (k.wrap (0-p))) :=
 Ye.of fun w=>by simp [execOp,hS.ev hx,Op.unary,Op.intArith]
theorem Qc {d:Option Nat} {x:Operand} {i:Nat} {ty:TypeId} {vs:Array Value} {v:Value} (hS:St W M T n G D F a w) (hx:ev G x=some (.tuple vs)) (hv:vs[i]? = some v):Ye P ⟨d,.extract x i,ty,pos,af,g⟩ a E w v :=
 Ye.of fun w=>by simp [execOp,hS.ev hx,Instr.extract,hv]
theorem OS {d:Option Nat} {x:Operand} {ty:TypeId} {p:Addr} (hS:St W M T n G D F a w) (hx:ev G x=some (.pointer (some p))):Ye P ⟨d,.nilCheck x,ty,pos,af,g⟩ a E w (.pointer (some p)) :=
 Ye.of fun w=>by simp [execOp,hS.ev hx]
def lm (P:Program) (t:TypeId):Option TypeId:=match P.underlying t with
 | some (.slice e)=>some e
 | _=>none
theorem rN {t e:TypeId} (h:lm P t=some e):P.underlying t=some (.slice e):=by
 unfold lm at h;split at h
 ·rename_i e' h1; injection h with h; subst h; exact h1
 ·cases h
theorem Fd {d:Option Nat} {x:Operand} {t e:TypeId} {ty:TypeId} {v:Value} {m:Nat} (hS:St W M T n G D F a w) (ht:lm P t=some e) (hx:ev G x=some v) (hv:∃ A c,v = .slice A m c):Ye P ⟨d,.call { callee:=.builtin .len,args:=#[x],argTypes:=#[t] },ty,pos,af,g⟩ a E w (.int .i64 m) :=
 Ye.of fun w=>by
  obtain⟨A,c,rfl⟩:=hv;have h1:=hS.ev hx;simp [execOp,resolve,invoke,builtin,h1,Builtin.len_,run_underlying (rN ht),goInt]
theorem Lq {α:Type} {R:aY α} {xs:List α} {d:Option Nat} {x:Operand} {t e:TypeId} {ty:TypeId} {v:Value} (hS:St W M T n G D F a w) (ht:lm P t=some e) (hx:ev G x=some v) (i:Nat) (hi:F[i]? = some (aR R v xs)):Ye P ⟨d,.call { callee:=.builtin .len,args:=#[x],argTypes:=#[t] },ty,pos,af,g⟩ a E w (.int .i64 xs.length) :=
 Fd hS ht hx (by obtain⟨A,c,e,_⟩:=aE.len (hS.get i hi); exact⟨A,c,e⟩)
theorem Kl {B sz:Nat} {e:TypeId} {v:Value} {cl:bv} (h:rj w B e sz v cl) (hs:0<sz) {m:Nat} (hm:cl.length=m*sz):∃ A c,v = .slice A m c:=by
 obtain⟨A,k,c,rfl,h1,_⟩:=h.form hs;have:k=m:=AO hs (h1.symm.trans hm);subst this;exact⟨A,c,rfl⟩
theorem I8 {α:Type} {R:aY α} {xs:List α} {cl:bv} {d:Option Nat} {x:Operand} {t e e':TypeId} {ty:TypeId} {v:Value} (hS:St W M T n G D F a w) (ht:lm P t=some e) (hx:ev G x=some v) (j:Nat) (hj:D[j]? = some (.own v e' R.size cl)) (i:Nat) (hi:F[i]? = some (an R cl xs)):Ye P ⟨d,.call { callee:=.builtin .len,args:=#[x],argTypes:=#[t] },ty,pos,af,g⟩ a E w (.int .i64 xs.length) :=
 Fd hS ht hx (by obtain⟨h1,h2⟩:=hS.own _ (a6 hj); exact Kl h1 h2 (hS.get i hi:aA R _ w cl xs).1)
theorem Nb {d:Option Nat} {x:Operand} {t:TypeId} {ty:TypeId} {s:ByteArray} (hS:St W M T n G D F a w) (ht:P.underlying t=some .string) (hx:ev G x=some (.string s)):Ye P ⟨d,.call { callee:=.builtin .len,args:=#[x],argTypes:=#[t] },ty,pos,af,g⟩ a E w (.int .i64 s.size) :=
 Ye.of fun w=>by
  have h1:=hS.ev hx;simp [execOp,resolve,invoke,builtin,h1,Builtin.len_,run_underlying ht,goInt]
theorem GY {s:TypeId} {f k:Nat} {b o:Nat} (hf:fi P s f=some k) (w:World):(Instr.fieldAt s (.pointer (some ⟨b,o,none⟩)) f).run P w = .ok (.pointer (some ⟨b,o+k,none⟩)) w:=by
 unfold fi at hf;split at hf
 ·rename_i fs hu;split at hf
  ·rename_i fd hfd;split at hf
   ·rename_i i hi;split at hf
    ·cases hf
    ·rename_i hz;injection hf with hf;subst hf;have hsz:(sizeOf fd.type).run P w = .ok i.size w:=by simp [sizeOf,typeInfo,hi]
     have hadd:Addr.add ⟨b,o,none⟩ fd.offset=⟨b,o+fd.offset,none⟩:=by
      unfold Addr.add;split
      ·rename_i h0; rw [h0]; rfl
      ·rfl
     simp [Instr.fieldAt,run_underlying hu,hfd,Instr.sureAddr,fieldPlace,hsz,hz,hadd]
   ·cases hf
  ·cases hf
 ·cases hf
theorem D8 {d:Option Nat} {s:TypeId} {x:Operand} {f k:Nat} {ty:TypeId} {b o:Nat} (hS:St W M T n G D F a w) (hx:ev G x=some (.pointer (some ⟨b,o,none⟩))) (hf:fi P s f=some k):Ye P ⟨d,.fieldAddr s x f,ty,pos,af,g⟩ a E w (.pointer (some ⟨b,o+k,none⟩)) :=
 Ye.of fun w=>by simp [execOp,hS.ev hx,GY hf]
theorem vC {t:TypeId} {b:Bool} {z:Nat} (h:n7 P t=some (b,z)) (w:World):(isAgg t).run P w = .ok b w:=by
 unfold n7 at h;split at h
 all_goals first | (cases h; done) | skip
 all_goals
  rename_i hu hi;simp only [fg,AS] at h;obtain⟨rfl,_⟩:=h;simp [isAgg,run_underlying hu]
theorem qA {t:TypeId} {b:Bool} {z:Nat} (h:n7 P t=some (b,z)) (w:World):(sizeOf t).run P w = .ok z w:=by
 unfold n7 at h;split at h
 all_goals first | (cases h; done) | skip
 all_goals
  rename_i hu hi;simp only [fg,AS] at h;obtain⟨_,rfl⟩:=h;simp [sizeOf,typeInfo,hi]
theorem lp (b o k:Nat):Addr.add ⟨b,o,none⟩ k=⟨b,o+k,none⟩:=by
 unfold Addr.add;split
 ·rename_i h0; rw [h0]; rfl
 ·rfl
theorem xy {b o:Nat}:∀ (m:Nat) (us:bv) (i:Nat) (acc:Array Value) (w:World),us.length=m→(∀ j u,us[j]? = some u→w.cell? ⟨b,o+i+j,none⟩=some u)→(loadCellsFrom ⟨b,o,none⟩ i m acc).run P w = .ok (acc++us.toArray) w
 | 0,us,i,acc,w,hl,_=>by
  obtain rfl:=yN hl;simp [loadCellsFrom]
 | m+1,us,i,acc,w,hl,hc=>by
  cases us with
  | nil=>simp at hl
  | cons u r =>
   have h0:=hc 0 u rfl;have ih:=xy m r (i+1) (acc.push u) w (by simpa using hl) (fun j v hv=>by have:=hc (j+1) v (by simpa using hv); rwa [show o+i+(j+1)=o+(i+1)+j by omega] at this);rw [sh] at h0;simp [loadCellsFrom,lp,h0,load,ih,Sem.run]
theorem BQ {t:TypeId} {ag:Bool} {z b o:Nat} {us:bv} {v:Value} (ht:n7 P t=some (ag,z)) (hl:us.length=z) (hv:v=cond ag (.agg us.toArray) (us.getD 0 undef)) (hz:ag=false→z=1) (w:World) (hc:∀ j u,us[j]? = some u→w.cell? ⟨b,o+j,none⟩=some u):(loadVar t ⟨b,o,none⟩).run P w = .ok v w:=by
 cases ag with
 | true =>
  have:=xy (P:=P) (b:=b) (o:=o) z us 0 #[] w hl (fun j u hu=>by rw [sh]; exact hc j u hu);rw [hv];simp [loadVar,vC ht,qA ht,loadCells,this]
 | false =>
  have h1:=hz rfl;subst h1;cases us with
  | nil=>simp at hl
  | cons u r =>
   have h0:=hc 0 u rfl;rw [hv];rw [sh] at h0;simp [loadVar,vC ht,load,h0,Sem.run]
def bp (ag:Bool) (us:bv):Value:=cond ag (.agg us.toArray) (us.getD 0 undef)
theorem wN {t:TypeId} {ag:Bool} {z b o:Nat} {us:bv} (ht:n7 P t=some (ag,z)) (hl:us.length=z) (hz:ag=false→z=1) (w:World) (hc:∀ j u,us[j]? = some u→w.cell? ⟨b,o+j,none⟩=some u):(Instr.loadAt t (.pointer (some ⟨b,o,none⟩))).run P w = .ok (bp ag us) w:=by
 simp [Instr.loadAt,Instr.sureAddr,BQ ht hl rfl hz w hc,bp]
theorem eU {d:Option Nat} {t ty:TypeId} {x:Operand} {ag:Bool} {z b o:Nat} {cs us:bv} {bt:TypeId} (hS:St W M T n G D F a w) (hx:ev G x=some (.pointer (some ⟨b,o,none⟩))) (ht:n7 P t=some (ag,z)) (i:Nat) (hi:D[i]? = some (.box b cs bt)) (hE:¬ E b)
  (hu:(cs.drop o).take z=us) (hl:us.length=z) (hz:ag=false→z=1):Ye P ⟨d,.load t x,ty,pos,af,g⟩ a E w (bp ag us):=fun w' hk=>by
 have hr:w.heap[b]? = some (.cells cs.toArray bt (0,0)):=hS.own _ (a6 hi);have hr':=(hk.block b (si.1 hr).1 hE).trans hr;have:=wN (P:=P) (b:=b) (o:=o) ht hl hz w' (fun j u hj=>by
  rw [cell_of_row _ _ _ _ _ _ hr',List.getElem?_toArray];rw [← hu,qV] at hj;split at hj
  ·rw [sj] at hj; exact hj
  ·cases hj)
 simp [execOp,hS.ev hx,this]
theorem xD {d:Option Nat} {t ty:TypeId} {x:Operand} {ag:Bool} {z b o k:Nat} {cs us:bv} (hS:St W M T n G D F a w) (ht:n7 P t=some (ag,z)) (i:Nat) (hi:F[i]? = some (ln b o cs)) (hx:ev G x=some (.pointer (some ⟨b,o+k,none⟩))) (hE:∀ j,E j→dT T D j∨w.heap.size≤j)
  (hu:(cs.drop k).take z=us) (hl:us.length=z) (hz:ag=false→z=1):Ye P ⟨d,.load t x,ty,pos,af,g⟩ a E w (bp ag us):=fun w' hk=>by
 have hc:n8 (dT T D) w b o cs:=hS.get i hi;have hk2:Kt (dT T D) w w':=⟨hk.os,hk.tape,hk.output,hk.size,fun j hj hn=>hk.block j hj fun he=>(hE j he).elim hn fun h=>by omega⟩;have hc':=(hc.keep hk2 (Nw.refl _ _)).sub (ds:=us) k (fun j u hj=>by
  rw [← hu,qV] at hj;split at hj
  ·rw [sj] at hj; exact hj
  ·cases hj)
 have:=wN (P:=P) (b:=b) (o:=o+k) ht hl hz w' hc'.2.2;simp [execOp,hS.ev hx,this]
theorem AF {d:Option Nat} {s:TypeId} {x:Operand} {f:Nat} {ty:TypeId} {cs:Array Value} {ag:Bool} {z k:Nat} {us:bv} {fs:Array Field} {fd:Field} (hS:St W M T n G D F a w) (hx:ev G x=some (.agg cs)) (hs:P.underlying s=some (.struct fs)) (hf:fs[f]? = some fd) (hk:fd.offset=k) (ht:n7 P fd.type=some (ag,z))
  (hu:(cs.toList.drop k).take z=us) (hl:us.length=z) (hz:ag=false→z=1):Ye P ⟨d,.field s x f,ty,pos,af,g⟩ a E w (bp ag us) :=
 Ye.of fun w=>by
  have h1:=hS.ev hx;subst hk;have hp:(part fd.type cs fd.offset).run P w = .ok (bp ag us) w:=by
   cases ag with
   | true =>
    have:cs.extract fd.offset (fd.offset+z)=us.toArray:=by
     rw [← hu];apply Ee.1;rw [Array.toList_extract,List.extract_eq_take_drop];simp
    simp [part,vC ht,qA ht,this,bp]
   | false =>
    have h1:=hz rfl;subst h1;have:cs[fd.offset]? = some (us.getD 0 undef):=by
     rw [← hu] at hl ⊢;rw [fe,sm] at hl;have hlt:fd.offset<cs.toList.length:=by omega
     rw [← xH,bS hlt];simp [Jd,qV,sj,bS hlt]
    simp [part,vC ht,this,bp]
  simp [execOp,h1,Instr.field,run_underlying hs,hf,asAgg,hp]
theorem CS {d:Option Nat} {s:TypeId} {x y:Operand} {ty:TypeId} {k:IntKind} {i:Int} {p:ByteArray} {c:UInt8} (hS:St W M T n G D F a w) (hs:P.underlying s=some .string) (hx:ev G x=some (.string p)) (hy:ev G y=some (.int k i)) (hc:bu p.toList i=some c):Ye P ⟨d,.index s x y,ty,pos,af,g⟩ a E w (.int .u8 c.toNat) :=
 Ye.of fun w=>by
  have h1:=hS.ev hx;have h2:=hS.ev hy;obtain⟨q1,q2,q3⟩:=gK hc;have h3:p[i.toNat]? = some c:=by
   rw [ByteArray.toList_eq,xH] at q3;rw [← q3]; rfl
  simp [execOp,h1,h2,Instr.index,asIntOf,run_underlying hs,q1,h3]
end
end
section
open Go.RowKit
variable {pos:String} {af:Array Edge} {g:Option (Nat×Bool)}
def i7 (P:Program) (t:TypeId):Option (bv):=match P.info? t with
 | some i=>match i.zero with
  | some z=>some z.cells.toList
  | none=>none
 | none=>none
def mZ (cs:bv) (o:Nat) (us:bv):bv:=cs.take o++us++cs.drop (o+us.length)
def Bv (pl:List (Nat×Nat)) (cs:bv):List (Nat×Value)→List (bv)→Option (bv)
 | [],[]=>some cs
 | p::r,u::s=>match pl[p.1]? with
  | some q=>cond (Nat.beq u.length q.2&&Nat.ble (q.1+q.2) cs.length) (Bv pl (mZ cs q.1 u) r s) none
  | none=>none
 | _,_=>none
def Cs:List (Nat×Value)→List (bv)→Prop
 | [],[]=>True
 | p::r,u::s=>p.2.cells.toList=u∧Cs r s
 | _,_=>False
theorem ft {v:Value} (h:v.oneCell'=true):v.cells.toList=[v]:=by cases v <;> first | rfl | cases h
def DM (P:Program) (t:TypeId):Option (List (Nat×Nat)):=match P.underlying t with
 | some (.struct fs)=>fs.toList.mapM fun f=>(P.info? f.type).map fun i=>(f.offset,i.size)
 | _=>none
def evp (G:List (Nat×Value)):List (Nat×Operand)→Option (List (Nat×Value))
 | []=>some []
 | p::r=>match ev G p.2 with
  | some v=>match evp G r with
   | some vs=>some ((p.1,v)::vs)
   | none=>none
  | none=>none
theorem DS:∀ (us:bv) (o k:Nat) (cs:Array Value),o+k+us.length≤cs.size→((us.zipIdx k).foldl (fun cs x=>cs.setIfInBounds (o+x.2) x.1) cs).toList=cs.toList.take (o+k)++us++cs.toList.drop (o+k+us.length)
 | [],o,k,cs,h=>by simp
 | u::r,o,k,cs,h=>by
  simp only [gH] at h;rw [List.zipIdx_cons,vi,DS r o (k+1) _ (by simp; omega)];simp only [Array.toList_setIfInBounds,gH];apply F5;intro j;have hl:cs.toList.length=cs.size:=by simp
  simp only [List.getElem?_append,cS,fe,Ef,qV,we,sj,gH];rw [hl];rw [show min (o+(k+1)) cs.size=o+k+1 by omega,show min (o+k) cs.size=o+k by omega];by_cases h1:j<o+k
  ·simp [h1,show j<o+k+1+r.length by omega,show j<o+(k+1) by omega,show j<o+k+1 by omega,show j<o+k+(r.length+1) by omega,show ¬ o+k=j by omega]
  ·by_cases h2:j=o+k
   ·subst h2;simp [show o+k<o+k+1+r.length by omega,show o+k<o+(k+1) by omega,show o+k<cs.size by omega]
   ·by_cases h3:j<o+k+1+r.length
    ·simp [h1,h3,show ¬ j<o+k+1 by omega,show j<o+k+(r.length+1) by omega];rw [show j-(o+k)=(j-(o+k+1))+1 by omega,Ed]
    ·simp [h3,show ¬ j<o+k+1 by omega,show ¬ j<o+k+(r.length+1) by omega,show ¬ o+k=o+(k+1)+r.length+(j-(o+k+1+r.length)) by omega];congr 1; omega
theorem Ce {place:Nat→Option (Nat×Nat)} {pl:List (Nat×Nat)} (hp:∀ i q,pl[i]? = some q→place i=some q):∀ (parts:List (Nat×Value)) (us:List (bv)) (cs ws:bv),Cs parts us→Bv pl cs parts us=some ws→Instr.fill place cs.toArray parts=some ws.toArray
 | [],[],cs,ws,_,h=>by simp only [Bv,fg] at h; subst h; rfl
 | [],_::_,_,_,h,_=>h.elim
 | _::_,[],_,_,h,_=>h.elim
 | (i,v)::r,u::s,cs,ws,hc0,h=>by
  obtain⟨hu,hc1⟩:=hc0;simp only at hu;subst hu;simp only [Bv] at h;cases hq:pl[i]? with
  | none=>rw [hq] at h; cases h
  | some q =>
   obtain⟨off,size⟩:=q;rw [hq] at h;simp only at h;cases hc:(Nat.beq v.cells.toList.length size&&Nat.ble (off+size) cs.length) with
   | false=>rw [hc] at h; cases h
   | true =>
    rw [hc] at h;simp only [cond_true] at h;simp only [so] at hc;have h1:v.cells.size=size:=by have:=AP hc.1; simpa using this
    have h2:off+size≤cs.length:=o4 hc.2;have ih:=Ce hp r s _ ws hc1 h;have e:(v.cells.zipIdx.foldl (fun cs x=>cs.setIfInBounds (off+x.2) x.1) cs.toArray)=(mZ cs off v.cells.toList).toArray:=by
     apply Ee.1;rw [← Array.foldl_toList,Array.toList_zipIdx,DS _ off 0 _ (by simp; omega)];simp [mZ]
    have h3:¬ (v.cells.size≠size||decide (off+v.cells.size>cs.toArray.size))=true:=by simp [h1]; omega
    simp only [Instr.fill,hp i _ hq];simp only [ne_eq,decide_not,xI,tF,decide_eq_false_iff_not,decide_eq_true_eq] at h3 ⊢;rw [if_neg h3];rw [← ih];congr 1
section
variable {P:Program} {W:World} {M T E:Nat→Prop} {n:Nat} {G G':List (Nat×Value)} {D D':List db} {F F':List cA} {a:Act} {w w':World} {K:Act→World→Prop}
theorem ux {o:Oper} {v:Value} {w':World} (h:(execOp a.eval o).run P w = .ok (.value v) w') (hk:K (a.put o.dst v) w'):qT P o a w K:=fun K' Q hK=>by
 unfold Oper.wp;rw [h,Oper.upon_value];exact hK _ _ hk
theorem DA {o:Oper} {w':World} (h:(execOp a.eval o).run P w = .ok .skip w') (hk:K (a.put o.dst undef) w'):qT P o a w K:=fun K' Q hK=>by
 unfold Oper.wp;rw [h,Oper.upon_skip];exact hK _ _ hk
theorem yx {t:TypeId} {cs:bv} (h:i7 P t=some cs) (w:World):∃ z:Value,z.cells.toList=cs∧(zeroValue t).run P w = .ok z w:=by
 unfold i7 at h;split at h
 ·rename_i i hi;split at h
  ·rename_i z hz;injection h with h;exact⟨z,h,by simp [zeroValue,typeInfo,hi,hz]⟩
  ·cases h
 ·cases h
theorem dd {d:Nat} {t ty:TypeId} {cs:bv} (hS:St W M T n G D F a w) (hz:i7 P t=some cs) (hn:Nat.blt d n=true)
  (k:∀ b,w.heap.size≤b→∀ a w',Kt No w w'→St W M T n ((d,.pointer (some ⟨b,0,none⟩))::G) (.box b cs t::D) F a w'→K a w'):qT P ⟨some d,.alloc t,ty,pos,af,g⟩ a w K:=by
 obtain⟨z,hz1,hz2⟩:=yx hz w;have hr:(execOp a.eval ⟨some d,.alloc t,ty,pos,af,g⟩).run P w = .ok (.value (.pointer (some ⟨w.heap.size,0,none⟩))) (w.alloc (.cells cs.toArray t)):=by
  subst hz1;simp [execOp,Instr.alloc,hz2,newVar,newRow]
 exact ux hr (k w.heap.size (cX _) _ _ (Kt.alloc _ _) ((hS.alloc cs t).put hn _))
theorem FH {d:Nat} {t ty:TypeId} {x:Operand} {v:Value} {cs:bv} (hS:St W M T n G D F a w) (hx:ev G x=some v) (hv:v.cells.toList=cs) (hn:Nat.blt d n=true)
  (k:∀ b,w.heap.size≤b→∀ a w',Kt No w w'→St W M T n ((d,.pointer (some ⟨b,0,none⟩))::G) (.box b cs t::D) F a w'→K a w'):qT P ⟨some d,.box t x,ty,pos,af,g⟩ a w K:=by
 have hr:(execOp a.eval ⟨some d,.box t x,ty,pos,af,g⟩).run P w = .ok (.value (.pointer (some ⟨w.heap.size,0,none⟩))) (w.alloc (.cells cs.toArray t)):=by
  subst hv;simp [execOp,Instr.box,hS.ev hx,newVar,newRow]
 exact ux hr (k w.heap.size (cX _) _ _ (Kt.alloc _ _) ((hS.alloc cs t).put hn _))
theorem Bj {t:TypeId} {ag:Bool} {z:Nat} (ht:n7 P t=some (ag,z)) {b o:Nat} {cs:Array Value} {bt:TypeId} {v:Value} (hr:w.heap[b]? = some (.cells cs bt (0,0))) (hz:v.cells.toList.length=z) (hl:o+z≤cs.size) (h1:∀ u∈v.cells.toList,u.oneCell'=true) :
  (Instr.storeAt t (.pointer (some ⟨b,o,none⟩)) v).run P w = .ok () (w.setRow b (cs.toList.take o++v.cells.toList++cs.toList.drop (o+z)).toArray):=by
 have h2:=run_storeCells_at (P:=P) b o bt v.cells.toList 0 cs w hr (by omega) h1;simp only [sh,hz] at h2;have h3:v.cells.size=z:=by rw [← hz]; simp
 simp [Instr.storeAt,Instr.sureAddr,storeVar,qA ht,h3,h2]
theorem tR {t ty:TypeId} {x y:Operand} {ag:Bool} {z b o:Nat} {cs us:bv} {bt:TypeId} {v:Value} (hS:St W M T n G D F a w) (hx:ev G x=some (.pointer (some ⟨b,o,none⟩))) (hy:ev G y=some v) (hv:v.cells.toList=us) (ht:n7 P t=some (ag,z)) (i:Nat) (hi:D[i]? = some (.box b cs bt))
  (hz:us.length=z) (hl:Nat.ble (o+z) cs.length=true) (h1:∀ u∈us,u.oneCell'=true)
  (k:∀ w',Kt (fun j=>j=b) w w'→St W M T n G (D.set i (.box b (mZ cs o us) bt)) F a w'→K a w'):qT P ⟨none,.store t x y,ty,pos,af,g⟩ a w K:=by
 have hr:w.heap[b]? = some (.cells cs.toArray bt (0,0)):=hS.own _ (a6 hi);subst hv;have hle:=o4 hl;have hst:=Bj (P:=P) ht hr hz (by simpa using hle) h1;have hrow:(w.setRow b (cs.take o++v.cells.toList++cs.drop (o+z)).toArray).heap[b]? = some (.cells (cs.take o++v.cells.toList++cs.drop (o+z)).toArray bt (0,0)):=setRow_heap w b cs.toArray _ bt _ hr;have hk:Kt (fun j=>db.dom (.box b cs bt) j) w (w.setRow b (cs.take o++v.cells.toList++cs.drop (o+z)).toArray):=by
  refine⟨rfl,rfl,rfl,by simp [World.setRow],fun j hj hn=>?_⟩;have hne:b≠j:=fun e=>hn (by simp [db.dom,e]);simp [World.setRow,yO,hne]
 refine DA (w':=w.setRow b (cs.take o++v.cells.toList++cs.drop (o+z)).toArray) (by simp [execOp,hS.ev hx,hS.ev hy,hst]) (k _ (hk.mono fun j hj=>by simp only [db.dom,fg] at hj; exact hj.symm) ?_);have:=hS.turn hi hk (r':=.box b (mZ cs o v.cells.toList) bt) (by rw [mZ,hz]; exact hrow) (fun j hj=>.inl hj);exact this
theorem DG {α β:Type} (f:α→Sem β) (g:α→Option β) (w:World) (hf:∀ x y,g x=some y→(f x).run P w = .ok y w):∀ (l:List α) (r:List β),l.mapM g=some r→(l.mapM f).run P w = .ok r w
 | [],r,h=>by simp only [List.mapM_nil,Option.pure_def,fg] at h; subst h; simp
 | x::l,r,h=>by
  simp only [List.mapM_cons,Option.bind_eq_bind,Option.pure_def] at h;cases h1:g x with
  | none=>rw [h1] at h; cases h
  | some y =>
   cases h2:l.mapM g with
   | none=>rw [h1,h2] at h; cases h
   | some ys =>
    rw [h1,h2] at h;simp only [ax,fg] at h;subst h;simp [List.mapM_cons,hf x y h1,DG f g w hf l ys h2]
theorem St.evp (h:St W M T n G D F a w):∀ {ps:List (Nat×Operand)} {vs:List (Nat×Value)},evp G ps=some vs→ps.map (fun p=>(p.1,a.eval p.2))=vs
 | [],vs,hx=>by simp only [Proofs.YtmfcloapbgfhaaaGreatDoor.evp,fg] at hx; subst hx; rfl
 | (i,x)::r,vs,hx=>by
  simp only [Proofs.YtmfcloapbgfhaaaGreatDoor.evp] at hx;cases h1:Proofs.YtmfcloapbgfhaaaGreatDoor.ev G x with
  | none=>rw [h1] at hx; cases hx
  | some v =>
   cases h2:Proofs.YtmfcloapbgfhaaaGreatDoor.evp G r with
   | none=>rw [h1,h2] at hx; cases hx
   | some us =>
    rw [h1,h2] at hx;simp only [fg] at hx;subst hx;rw [tE,h.ev h1,h.evp h2]
theorem bq {d:Option Nat} {t ty:TypeId} {ps:List (Nat×Operand)} {pl:List (Nat×Nat)} {zs ws:bv} {us:List (bv)} {vs:List (Nat×Value)} (hS:St W M T n G D F a w) (hp:DM P t=some pl) (hz:i7 P t=some zs) (hv:evp G ps=some vs) (hcs:Cs vs us) (hf:Bv pl zs vs us=some ws) :
  Ye P ⟨d,.build t ps.toArray,ty,pos,af,g⟩ a E w (.agg ws.toArray) :=
 Ye.of fun w=>by
  unfold DM at hp;split at hp
  ·rename_i fs hu;obtain⟨z,hz1,hz2⟩:=yx hz w;have h1:=DG (P:=P) (fun f=>do pure (f.offset,← sizeOf f.type)) (fun f=>(P.info? f.type).map fun i=>(f.offset,i.size)) w (fun x y hy=>by
    cases hi:P.info? x.type with
    | none=>rw [hi] at hy; cases hy
    | some i=>rw [hi] at hy; simp only [o7,fg] at hy; subst hy; simp [sizeOf,typeInfo,hi]) fs.toList pl hp
   have h2:(fs.mapM (m:=Sem) fun f=>do pure (f.offset,← sizeOf f.type)).run P w = .ok pl.toArray w:=by
    rw [Array.mapM_eq_mapM_toList,Sem.run_map,h1]; rfl
   have h3:=Ce (place:=(pl.toArray[·]?)) (pl:=pl) (fun i q hq=>by simpa using hq) vs us zs ws hcs hf;have hzc:z.cells=zs.toArray:=by rw [← hz1]
   have h4:(ps.toArray.map (fun p=>(p.1,a.eval p.2))).toList=vs:=by rw [← hS.evp hv]; simp
   have h5:(Instr.build t (ps.toArray.map (fun p=>(p.1,a.eval p.2)))).run P w = .ok (.agg ws.toArray) w:=by
    unfold Instr.build;simp only [Sem.run_bind,hz2,Result.andThen_ok,run_underlying hu,h2,hzc,h4,h3,Sem.run_pure]
   simp [execOp] at h5 ⊢;rw [h5]; rfl
  ·cases hp
end
end
section
open Go.RowKit
section
variable {P:Program} {ops:Array Oper} {Q:Exit→Act→World→Prop} {md:Region.Mode} {E:Nat→Prop}
inductive Tn where
 | any
 | blk (o:Option Nat)
 | new (N:Nat)
 | bks (l:List (Option Nat))
def Et:Tn→Nat→Prop
 | .any,_=>True
 | .blk o,k=>o=some k
 | .new N,k=>N≤k
 | .bks l,k=>some k∈l
def Eo (l:List (Tn)) (k:Nat):Prop:=∃ e∈l,Et e k
def wA (mods:List (Nat×Tn)) (i:Nat):List (Tn):=(mods.filter fun p=>Nat.beq p.1 i).map (·.2)
def KK (mods:List (Nat×Tn)) (i:Nat) (w w':World):Prop:=Kt (Eo (wA mods i)) w w'
def vd (ops:Array Oper) (listed:Array Bool) (i:Nat):Nat→Nat→Bool
 | 0,_=>false
 | n+1,j=>match ops[j]? with
  | some oj=>oj.after.any fun e=>Region.binds .any e&&(Nat.beq e.on i||(!listed.getD e.on true&&vd ops listed i n e.on))
  | none=>true
def zI (ops:Array Oper) (listed:Array Bool) (i j:Nat):Bool:=listed.getD j true||vd ops listed i 5 j
def rem (ops:Array Oper) (mods:List (Nat×Tn)) (listed:Array Bool) (i:Nat):List (Tn):=(mods.filter fun p=>!zI ops listed i p.1).map (·.2)
def tJ (P:Program) (ops:Array Oper) (Q:Exit→Act→World→Prop) (mods:List (Nat×Tn)):Nat→Array Bool→Act→World→Prop
 | 0,listed,a,w=>Region.ready .any ops listed=[]∧Q .normal a w
 | fuel+1,listed,a,w =>
  (Region.ready .any ops listed=[]→Q .normal a w) ∧
  ∀ i∈Region.ready .any ops listed,wpOp P ops Q i (fun a' w'=>KK mods i w w'∧tJ P ops Q mods fuel (listed.setIfInBounds i true) a' w') a w
theorem F2 {mods:List (Nat×Tn)}:∀ (fuel:Nat) (listed:Array Bool) (a:Act) (w:World),tJ P ops Q mods fuel listed a w→wpAny P .any ops Q fuel listed a w
 | 0,_,_,_,h=>h
 | fuel+1,listed,a,w,h=>⟨h.1,fun i hi=>wpOp_mono (fun a w h=>F2 fuel _ a w h.2) (h.2 i hi)⟩
theorem J7 {l:Array Bool} {i:Nat} (h:l.getD i false=true):l.getD i true=true:=by
 rcases kP i l.size with h' | h'
 ·simp [h'] at h ⊢; exact h
 ·simp [F6 h'] at h
theorem D3 {listed:Array Bool} {i j:Nat} {oj:Oper} (hj:ops[j]? = some oj) (hall:∀ e∈oj.after,Region.binds .any e=true→listed.getD e.on false=true) (hno:∀ e∈oj.after,Region.binds .any e=true→e.on≠i):∀ n,vd ops listed i n j=false
 | 0=>rfl
 | n+1=>by
  cases h:vd ops listed i (n+1) j with
  | false=>rfl
  | true =>
   unfold vd at h;rw [hj] at h;dsimp only at h;obtain⟨e,he,hb⟩:=KG.1 h;simp only [so,xI,tF] at hb;rcases hb.2 with h1 | h1
   ·exact absurd (AP h1) (hno e he hb.1)
   ·rw [J7 (hall e he hb.1)] at h1; cases h1.1
theorem HM {listed:Array Bool} {i j:Nat} {oj:Oper} (hj:ops[j]? = some oj) (hun:listed.getD j true=false) (hall:∀ e∈oj.after,Region.binds .any e=true→listed.getD e.on false=true) (hno:∀ e∈oj.after,Region.binds .any e=true→e.on≠i):zI ops listed i j=false:=by
 unfold zI;rw [hun,D3 hj hall hno]; rfl
theorem BV {listed:Array Bool} {i j:Nat} (hw:∀ n,vd ops listed i n j=false):∀ n k,vd ops listed i n k=true→vd ops (listed.setIfInBounds j true) i n k=true
 | 0,_,h=>h
 | n+1,k,h=>by
  unfold vd at h ⊢;cases hk:ops[k]? with
  | none=>rfl
  | some ok =>
   rw [hk] at h;dsimp only at h ⊢;obtain⟨e,he,hb⟩:=KG.1 h;refine KG.2 ⟨e,he,?_⟩;simp only [so,xI,tF] at hb ⊢;refine⟨hb.1,?_⟩;rcases hb.2 with h1 | ⟨h1,h2⟩
   ·exact .inl h1
   ·by_cases hej:j=e.on
    ·rw [← hej,hw n] at h2; cases h2
    ·exact .inr ⟨by rw [getD_set_ne true hej]; exact h1,BV hw n _ h2⟩
theorem GB {listed:Array Bool} {i j k:Nat} (hw:∀ n,vd ops listed i n j=false) (h:zI ops (listed.setIfInBounds j true) i k=false):zI ops listed i k=false:=by
 unfold zI at *;rw [BX] at h ⊢;refine⟨?_,?_⟩
 ·have h1:=h.1;by_cases hjk:j=k
  ·subst hjk;by_cases hl:j<listed.size
   ·simp [hl] at h1
   ·simp [F6 (by omega:listed.size≤j)] at h1
  ·rw [getD_set_ne true hjk] at h1; exact h1
 ·cases h2:vd ops listed i 5 k with
  | false=>rfl
  | true=>rw [BV hw 5 k h2] at h; cases h.2
def YE (P:Program) (ops:Array Oper) (E:Nat→Prop) (w0:World) (o:Oper) (v:Value) (a:Act):Prop :=
 (Region.wanted o (yielded ops a.tmps)=true∧∀ w,Kt E w0 w→(execOp a.eval o).run P w = .ok (.value v) w) ∨
 (Region.wanted o (yielded ops a.tmps)=false∧v=undef)
theorem YE.wpOp {w0:World} {i:Nat} {o:Oper} {v:Value} {a:Act} (hi:ops[i]? = some o) (hy:YE P ops E w0 o v a)
  {K:Act→World→Prop} {w:World} (hw0:Kt E w0 w) (h:K (a.put o.dst v) w):wpOp P ops Q i K a w:=by
 unfold Go.wpOp;simp only [hi];rcases hy with⟨hw,hv⟩|⟨hw,rfl⟩
 ·simp only [hw,if_true,Oper.wp,hv w hw0,Oper.upon]; exact .inl h
 ·simp only [hw,F7,if_false]; exact h
theorem YE.of_same {w0:World} {o:Oper} {v:Value} {a a':Act} (hy:YE P ops E w0 o v a) (he:execOp a'.eval o=execOp a.eval o)
  (hw:Region.wanted o (yielded ops a'.tmps)=Region.wanted o (yielded ops a.tmps)):YE P ops E w0 o v a':=by
 unfold YE at *;rw [he,hw];exact hy
theorem He {w0:World} {j:Nat} {oi oj:Oper} {v:Value} (hj:ops[j]? = some oj) (hap:oi.apart ops oj=true)
  (hsi:∀ cs b,oi.op ≠ .select cs b) (hsj:∀ cs b,oj.op ≠ .select cs b)
  (hQ:∀ c a w,Q (.panic c) (a.put oi.dst v) w→Q (.panic c) a w) {K:Act→World→Prop} {a:Act} {w:World}
  (hy:YE P ops E w0 oi v a) (h:wpOp P ops Q j K (a.put oi.dst v) w) :
  wpOp P ops Q j (fun a' w'=>YE P ops E w0 oi v a'∧K (a'.put oi.dst v) w') a w:=by
 obtain⟨h1,h2,h3⟩:=Oper.apart_spec hap;have keep:∀ (a:Act),YE P ops E w0 oi v a→∀ u,YE P ops E w0 oi v (a.put oj.dst u):=fun a hy u =>
  hy.of_same (execOp_put oi hsi a oj.dst u h3) (wanted_put oi a oj.dst u h3)
 have keepD:∀ d,YE P ops E w0 oi v { a with defers:=d::a.defers }:=fun d=>hy.of_same rfl rfl;unfold wpOp at *;simp only [hj] at *;rw [wanted_put oj a oi.dst v h1] at h;split
 ·rename_i hw;simp only [hw,if_true] at h;rcases h with h | ⟨hasks,hlets⟩
  case inr=>exact .inr ⟨by unfold Oper.asks at *; rw [execOp_put oj hsj a oi.dst v h1] at hasks; exact hasks,hlets⟩
  refine .inl ?_;unfold Oper.wp at *;rw [execOp_put oj hsj a oi.dst v h1] at h;generalize (execOp a.eval oj).run P w=r at *;cases r with
  | ok n w' =>
   cases n <;> simp only [Oper.upon] at h ⊢
   case value u=>exact⟨keep a hy u,by rw [← Act.put_comm a v u h2]; exact h⟩
   case skip=>exact⟨keep a hy _,by rw [← Act.put_comm a v undef h2]; exact h⟩
   case defer d =>
    refine⟨keep _ (keepD d) _,?_⟩;rw [← Act.put_comm _ v undef h2,← Act.put_defers];exact h
   case enter f args =>
    refine Calls.mono h fun e w'' he=>?_;cases e with
    | returned u=>exact⟨keep a hy u,by rw [← Act.put_comm a v u h2]; exact he⟩
    | panicked c=>exact hQ _ _ _ he
    | outgrown=>exact he
   case row row args=>exact Rows.mono h fun u w'' he=>⟨keep a hy u,by rw [← Act.put_comm a v u h2]; exact he⟩
  | halt x w' =>
   cases x <;> simp only [Oper.upon] at h ⊢
   case panic u=>exact hQ _ _ _ h
 ·rename_i hw;simp only [hw] at h;exact⟨keep a hy _,by rw [← Act.put_comm a v undef h2]; exact h⟩
theorem Hd {mods:List (Nat×Tn)} {w0:World} {i:Nat} {oi:Oper} {v:Value} (hi:ops[i]? = some oi) (hsel:∀ (j:Nat) (o:Oper) cs b,ops[j]? = some o→o.op ≠ .select cs b)
  (hQ:∀ c a w,Q (.panic c) (a.put oi.dst v) w→Q (.panic c) a w) :
  ∀ (fuel:Nat) (listed:Array Bool) (a:Act) (w:World),
   (∀ j oj,ops[j]? = some oj→j≠i→listed.getD j true=false→(∀ e∈oj.after,Region.binds .any e=true→e.on≠i)→oi.apart ops oj=true) →
   i∈Region.ready .any ops listed→(∀ p∈mods,zI ops listed i p.1=false→∀ k,Et p.2 k→E k)→YE P ops E w0 oi v a→Kt E w0 w →
   tJ P ops Q mods fuel (listed.setIfInBounds i true) (a.put oi.dst v) w→tJ P ops Q mods (fuel+1) listed a w:=by
 intro fuel
 induction fuel with
 | zero =>
  intro listed a w _ hr _ hy hw0 H;refine⟨fun h=>(by rw [h] at hr; cases hr),fun j hj=>?_⟩;by_cases hji:j=i
  ·subst hji; exact hy.wpOp hi hw0 ⟨au _ _,H⟩
  ·have:=ready_mono hj hji;rw [H.1] at this;cases this
 | succ fuel ih =>
  intro listed a w hfree hr hbef hy hw0 H;refine⟨fun h=>(by rw [h] at hr; cases hr),fun j hj=>?_⟩;by_cases hji:j=i
  ·subst hji; exact hy.wpOp hi hw0 ⟨au _ _,H⟩
  ·have h1:=H.2 j (ready_mono hj hji);obtain⟨hjun,oj,hoj,hall⟩:=mem_ready.1 hj;have hnot:∀ e∈oj.after,Region.binds .any e=true→e.on≠i:=fun e he hb heq=>by
    have h1:=hall e he hb;have h0:=(mem_ready.1 hr).1;rw [heq] at h1;rcases kP i listed.size with h' | h'
    ·simp [h'] at h0 h1; rw [h0] at h1; cases h1
    ·simp [F6 h'] at h1
   have h2:=He hoj (hfree j oj hoj hji hjun hnot) (fun cs b=>hsel i oi cs b hi) (fun cs b=>hsel j oj cs b hoj) hQ hy h1;have hfree':∀ k ok,ops[k]? = some ok→k≠i→(listed.setIfInBounds j true).getD k true=false →
     (∀ e∈ok.after,Region.binds .any e=true→e.on≠i)→oi.apart ops ok=true:=fun k ok hk hki hun hno=>by
    refine hfree k ok hk hki ?_ hno;by_cases hjk:j=k
    ·subst hjk; exact hjun
    ·rw [getD_set_ne true hjk] at hun; exact hun
   refine wpOp_mono (fun a' w' h3=>⟨h3.2.1,ih (listed.setIfInBounds j true) a' w' hfree' (ready_mono hr (Ne.symm hji)) (fun p hp hd=>hbef p hp (GB (D3 hoj hall hnot) hd)) h3.1 (hw0.trans ?_) ?_⟩) h2
   ·refine Kt.mono h3.2.1 fun k hk=>?_;obtain⟨e,he,hek⟩:=hk;obtain⟨p,hp,rfl⟩:=gq.1 he;rw [iZ] at hp;have hpj:=AP hp.2;exact hbef p hp.1 (by rw [hpj]; exact HM hoj hjun hall hnot) k hek
   ·rw [Array.setIfInBounds_comm _ _ hji];exact h3.2.2
theorem xC {mods:List (Nat×Tn)} {l:List (Tn)} {i:Nat} {oi:Oper} {v:Value} {fuel:Nat} {listed:Array Bool} {a:Act} {w:World} (hi:ops[i]? = some oi)
  (hs:Region.noSelect ops=true) (hf:Region.free .any ops listed i=true) (hr:(Region.ready .any ops listed).contains i=true) (hb:rem ops mods listed i=l)
  (hQ:∀ c a w,Q (.panic c) (a.put oi.dst v) w→Q (.panic c) a w) (hy:YE P ops (Eo l) w oi v a)
  (h:tJ P ops Q mods fuel (listed.setIfInBounds i true) (a.put oi.dst v) w):tJ P ops Q mods (fuel+1) listed a w :=
 Hd hi (Region.noSelect_spec hs) hQ fuel listed a w (Region.free_spec hi hf) (by simpa using hr)
  (fun p hp hd k hk=>⟨p.2,by rw [← hb]; exact gq.2 ⟨p,iZ.2 ⟨hp,by rw [hd]; rfl⟩,rfl⟩,hk⟩) hy (au _ _) h
theorem ue {mods:List (Nat×Tn)} {i:Nat} {oi:Oper} {fuel:Nat} {listed:Array Bool} {a:Act} {w:World} (hi:ops[i]? = some oi) (hr:Region.ready .any ops listed=[i]) (hg:oi.guard=none)
  (h:qT P oi a w (fun a' w'=>KK mods i w w'∧tJ P ops Q mods fuel (listed.setIfInBounds i true) a' w')):tJ P ops Q mods (fuel+1) listed a w:=by
 refine⟨fun h=>(by rw [h] at hr; cases hr),fun j hj=>?_⟩;rw [hr,eG] at hj;subst hj;unfold wpOp;rw [hi];simp only;rw [if_pos (by simp [Region.wanted,hg])];exact .inl (h _ _ fun a w h=>h)
theorem cI {mods:List (Nat×Tn)} {W:World} {M T:Nat→Prop} {n:Nat} {G:List (Nat×Value)} {D:List db} {F:List cA} {i:Nat} {oi:Oper} {fuel:Nat} {listed:Array Bool} {a:Act} {w:World} {j t:Nat} {want c:Bool} (hi:ops[i]? = some oi) (hr:Region.ready .any ops listed=[i]) (hS:St W M T n G D F a w) (hg:oi.guard=some (j,want)) (hj:(ops[j]?).bind (·.dst)=some t) (ht:lk G t=some (.bool c)) (hc:c=want)
  (h:qT P oi a w (fun a' w'=>KK mods i w w'∧tJ P ops Q mods fuel (listed.setIfInBounds i true) a' w')):tJ P ops Q mods (fuel+1) listed a w:=by
 refine⟨fun h=>(by rw [h] at hr; cases hr),fun k hk=>?_⟩;rw [hr,eG] at hk;subst hk;unfold wpOp;rw [hi];simp only;rw [if_pos (by rw [rB hS hg hj ht,hc]; simp)];exact .inl (h _ _ fun a w h=>h)
theorem eh {mods:List (Nat×Tn)} {i j:Nat} {oi oj:Oper} {fuel:Nat} {listed:Array Bool} {a:Act} {w:World} (hi:ops[i]? = some oi) (hj:ops[j]? = some oj) (hr:Region.ready .any ops listed=[i,j]) (hg:oi.guard=none) (hg2:oj.guard=none)
  (h:qT P oi a w (fun a' w'=>KK mods i w w'∧tJ P ops Q mods fuel (listed.setIfInBounds i true) a' w'))
  (h2:qT P oj a w (fun a' w'=>KK mods j w w'∧tJ P ops Q mods fuel (listed.setIfInBounds j true) a' w')):tJ P ops Q mods (fuel+1) listed a w:=by
 refine⟨fun h=>(by rw [h] at hr; cases hr),fun k hk=>?_⟩;rw [hr] at hk;simp only [cz,gn,or_false] at hk;rcases hk with rfl | rfl
 ·unfold wpOp;rw [hi];simp only;rw [if_pos (by simp [Region.wanted,hg])];exact .inl (h _ _ fun a w h=>h)
 ·unfold wpOp;rw [hj];simp only;rw [if_pos (by simp [Region.wanted,hg2])];exact .inl (h2 _ _ fun a w h=>h)
theorem D4 {mods:List (Nat×Tn)} {listed:Array Bool} {a:Act} {w:World} (hr:Region.ready .any ops listed=[]) (h:Q .normal a w):∀ fuel,tJ P ops Q mods fuel listed a w
 | 0=>⟨hr,h⟩
 | _+1=>⟨fun _=>h,fun i hi=>by rw [hr] at hi; cases hi⟩
theorem gf {mods:List (Nat×Tn)} {i:Nat} {w w':World} (h:Kt No w w'):KK mods i w w':=h.no
theorem mx {mods:List (Nat×Tn)} {i:Nat} {w w':World} {e:Tn} {E:Nat→Prop} (hm:wA mods i=[e]) (h:Kt E w w') (he:∀ k,E k→Et e k):KK mods i w w' :=
 h.mono fun k hk=>⟨e,by rw [hm]; exact eG.2 rfl,he k hk⟩
theorem vQ {E:Nat→Prop}:∀ k,E k→Et .any k:=fun _ _=>trivial
theorem kG {b:Nat}:∀ k,k=b→Et (.blk (some b)) k:=fun _ h=>congrArg some h.symm
theorem mE {v:Value}:∀ k,v.ownBlock=some k→Et (.blk v.ownBlock) k:=fun _ h=>h
theorem n4 {b N:Nat} (h:N≤b):∀ k,Et (.blk (some b)) k→Et (.new N) k:=fun k hk=>by
 have hk:some b=some k:=hk;injection hk with hk;subst hk; exact h
def Qy (mods:List (Nat×Tn)) (i:Nat) (e:Tn):List (Nat×Tn):=mods.map fun p=>if Nat.beq p.1 i then (i,e) else p
theorem F3 {mods mods':List (Nat×Tn)} (h:∀ i k,Eo (wA mods' i) k→Eo (wA mods i) k):∀ (fuel:Nat) (listed:Array Bool) (a:Act) (w:World),tJ P ops Q mods' fuel listed a w→tJ P ops Q mods fuel listed a w
 | 0,_,_,_,H=>H
 | fuel+1,_,_,_,H=>⟨H.1,fun i hi=>wpOp_mono (fun a w h1=>⟨h1.1.mono (h i),F3 h fuel _ a w h1.2⟩) (H.2 i hi)⟩
theorem dt {mods:List (Nat×Tn)} {fuel:Nat} {listed:Array Bool} {a:Act} {w:World} (i:Nat) (e e0:Tn) (hm:wA mods i=[e0]) (hs:∀ k,Et e k→Et e0 k) (H:tJ P ops Q (Qy mods i e) fuel listed a w):tJ P ops Q mods fuel listed a w:=by
 refine F3 (fun j k hk=>?_) _ _ _ _ H;obtain⟨x,hx,hxk⟩:=hk;unfold wA at hx;obtain⟨p,hp,rfl⟩:=gq.1 hx;rw [iZ] at hp;obtain⟨hp1,hp2⟩:=hp;unfold Qy at hp1;obtain⟨q,hq,rfl⟩:=gq.1 hp1;by_cases hqi:Nat.beq q.1 i=true
 ·rw [if_pos hqi] at hp2 hxk;have hij:i=j:=AP hp2;subst hij;exact⟨e0,by rw [hm]; exact eG.2 rfl,hs k hxk⟩
 ·rw [if_neg hqi] at hp2 hxk;exact⟨q.2,gq.2 ⟨q,iZ.2 ⟨hq,hp2⟩,rfl⟩,hxk⟩
theorem D5 {id:Nat} {a:Act} {w:World} (mods:List (Nat×Tn)) (hm:P.follows .mixedOrders=true) (h:tJ P ops Q mods ops.size (Array.replicate ops.size false) a w.drew):(Code.region id ops true).wp P Q a w :=
 wp_region_any hm (F2 _ _ _ _ h)
end
section
variable {P:Program} {W:World} {M T E:Nat→Prop} {n:Nat} {G G':List (Nat×Value)} {D D':List db} {F F':List cA} {a:Act} {w w':World} {ops:Array Oper} {Q:Exit→Act→World→Prop} {fuel:Nat} {listed:Array Bool} {mods:List (Nat×Tn)}
def Qp (Q:Exit→Act→World→Prop):Prop:=∀ c a d v w,Q (.panic c) (a.put d v) w→Q (.panic c) a w
theorem Le {id:Nat} {l:List Oper} {N:Nat} (mods:List (Nat×Tn)) (hS:St W M T n G D F a w) (hm:P.follows .mixedOrders=true) (hN:l.length=N) (hQ:Qp Q) (h:∀ w,Qp Q→St W M T n G D F a w→tJ P l.toArray Q mods N (Array.replicate N false) a w):(Code.region id l.toArray true).wp P Q a w:=by
 refine D5 mods hm ?_;rw [Ec,hN];exact h _ hQ (hS.later (Kt.drew w))
theorem dy {l:List (Tn)} (i:Nat) {o:Oper} {v:Value} {d:Nat} (hi:ops[i]? = some o) (hs:Region.noSelect ops=true) (hf:Region.free .any ops listed i=true) (hr:(Region.ready .any ops listed).contains i=true) (hb:rem ops mods listed i=l) (hQ:Qp Q) (hS:St W M T n G D F a w) (h:Ye P o a (Eo l) w v) (hg:o.guard=none) (hd:o.dst=some d) (hn:Nat.blt d n=true)
  (k:∀ a,St W M T n ((d,v)::G) D F a w→tJ P ops Q mods fuel (listed.setIfInBounds i true) a w):tJ P ops Q mods (fuel+1) listed a w :=
 xC hi hs hf hr hb (fun c a w=>hQ c a _ _ w) (.inl ⟨by simp [Region.wanted,hg],h⟩) (by rw [hd]; exact k _ (hS.put hn v))
theorem y7 {l:List (Tn)} (i:Nat) {o:Oper} {v:Value} {d j t:Nat} {want c:Bool} (hi:ops[i]? = some o) (hs:Region.noSelect ops=true) (hf:Region.free .any ops listed i=true) (hr:(Region.ready .any ops listed).contains i=true) (hb:rem ops mods listed i=l) (hQ:Qp Q) (hS:St W M T n G D F a w) (h:Ye P o a (Eo l) w v) (hg:o.guard=some (j,want)) (hj:(ops[j]?).bind (·.dst)=some t) (ht:lk G t=some (.bool c)) (hc:c=want) (hd:o.dst=some d) (hn:Nat.blt d n=true)
  (k:∀ a,St W M T n ((d,v)::G) D F a w→tJ P ops Q mods fuel (listed.setIfInBounds i true) a w):tJ P ops Q mods (fuel+1) listed a w :=
 xC hi hs hf hr hb (fun c a w=>hQ c a _ _ w) (.inl ⟨by rw [rB hS hg hj ht,hc]; simp,h⟩) (by rw [hd]; exact k _ (hS.put hn v))
theorem QF (i:Nat) {o:Oper} {d j t:Nat} {want c:Bool} (hi:ops[i]? = some o) (hs:Region.noSelect ops=true) (hf:Region.free .any ops listed i=true) (hr:(Region.ready .any ops listed).contains i=true) (hQ:Qp Q) (hS:St W M T n G D F a w) (hg:o.guard=some (j,want)) (hj:(ops[j]?).bind (·.dst)=some t) (ht:lk G t=some (.bool c)) (hc:c = !want) (hd:o.dst=some d) (hn:Nat.blt d n=true)
  (k:∀ a,St W M T n ((d,undef)::G) D F a w→tJ P ops Q mods fuel (listed.setIfInBounds i true) a w):tJ P ops Q mods (fuel+1) listed a w :=
 xC (v:=undef) hi hs hf hr rfl (fun c a w=>hQ c a _ _ w) (.inr ⟨by rw [rB hS hg hj ht,hc]; cases want <;> simp,rfl⟩) (by rw [hd]; exact k _ (hS.put hn undef))
theorem PL (i:Nat) {o:Oper} {d j t:Nat} {want:Bool} (hi:ops[i]? = some o) (hs:Region.noSelect ops=true) (hf:Region.free .any ops listed i=true) (hr:(Region.ready .any ops listed).contains i=true) (hQ:Qp Q) (hS:St W M T n G D F a w) (hg:o.guard=some (j,want)) (hj:(ops[j]?).bind (·.dst)=some t) (ht:lk G t=some undef) (hd:o.dst=some d) (hn:Nat.blt d n=true)
  (k:∀ a,St W M T n ((d,undef)::G) D F a w→tJ P ops Q mods fuel (listed.setIfInBounds i true) a w):tJ P ops Q mods (fuel+1) listed a w :=
 xC (v:=undef) hi hs hf hr rfl (fun c a w=>hQ c a _ _ w) (.inr ⟨by
  have h1:=hS.slots t _ ht;unfold Region.wanted yielded;rw [hg];simp only [hj,ax,h1];rfl,rfl⟩) (by rw [hd]; exact k _ (hS.put hn undef))
theorem bP {k:Nat}:¬ Eo [] k:=fun ⟨_,h,_⟩=>by cases h
theorem FB {k:Nat} {e:Tn} {l:List Tn} (h1:¬ Et e k) (h:¬ Eo l k):¬ Eo (e::l) k:=fun ⟨e,he,hk⟩=>by
 rcases cz.1 he with rfl | he
 ·exact h1 hk
 ·exact h ⟨e,he,hk⟩
theorem jZ {k:Nat} {l:List Tn} {o:Option Nat} {r r':db} (hS:St W M T n G D F a w) (i:Nat) (hi:D[i]? = some r) (hr:r.dom k) (j:Nat) (hj:D[j]? = some r') (hd:r'.dom=fun k=>o=some k) (hij:i≠j) (h:¬ Eo l k):¬ Eo (.blk o::l) k:=FB (fun hk=>by
 have hk:o=some k:=hk;obtain⟨l1,e1⟩:=bN.1 hi;obtain⟨l2,e2⟩:=bN.1 hj;rcases AQ hij with hlt | hlt
 ·exact gG.1 hS.apart i j l1 l2 hlt k (by rw [e1]; exact hr) (by rw [e2,hd]; exact hk)
 ·exact gG.1 hS.apart j i l2 l1 hlt k (by rw [e2,hd]; exact hk) (by rw [e1]; exact hr)) h
def JA:db→Option Nat
 | .box b _ _=>some b
 | .own v _ _ _=>v.ownBlock
 | .obj b _=>some b
 | .grp _=>none
def Li:db→Bool
 | .grp _=>false
 | _=>true
theorem Hm {r:db} (h:Li r=true) {k:Nat} (hk:r.dom k):JA r=some k:=by cases r <;> first | exact hk | cases h
theorem Dk {r:db} {k:Nat} (h:JA r=some k):r.dom k:=by cases r <;> first | exact h | cases h
theorem Dl {D0:List db} {l:List (Option Nat)} (h:D0.map JA=l) (hg:D0.all Li=true):∀ k,(∃ r∈D0,r.dom k)→Et (.bks l) k:=fun k ⟨r,hr,hk⟩=>by
 subst h;exact gq.2 ⟨r,hr,Hm (List.all_eq_true.1 hg r hr) hk⟩
theorem xW {l:List (Option Nat)}:∀ k,(∃ r∈([]:List db),r.dom k)→Et (.bks l) k:=fun k ⟨r,hr,_⟩=>by cases hr
theorem zK {k:Nat} {l:List Tn} {bs:List (Option Nat)} {r:db} (hS:St W M T n G D F a w) (i:Nat) (hi:D[i]? = some r) (hr:r.dom k) (js:List Nat) (hl:(js.map fun j=>(D[j]?).bind JA)=bs) (hn:js.contains i=false) (h:¬ Eo l k):¬ Eo (.bks bs::l) k:=FB (fun hk=>by
 subst hl;obtain⟨j,hj,e⟩:=gq.1 (show some k∈_ from hk);obtain⟨r',h1,h2⟩:=F8.1 e;have hij:i≠j:=fun e=>by subst e; rw [List.contains_eq_mem,decide_eq_false_iff_not] at hn; exact hn hj
 obtain⟨l1,e1⟩:=bN.1 hi;obtain⟨l2,e2⟩:=bN.1 h1;rcases AQ hij with hlt | hlt
 ·exact gG.1 hS.apart i j l1 l2 hlt k (by rw [e1]; exact hr) (by rw [e2]; exact Dk h2)
 ·exact gG.1 hS.apart j i l2 l1 hlt k (by rw [e2]; exact Dk h2) (by rw [e1]; exact hr)) h
theorem EH:∀ k,Eo [] k→dT T D k∨w.heap.size≤k:=fun _ ⟨_,h,_⟩=>by cases h
theorem JQ {e:Tn} {l:List Tn} (h1:∀ k,Et e k→dT T D k∨w.heap.size≤k) (h:∀ k,Eo l k→dT T D k∨w.heap.size≤k):∀ k,Eo (e::l) k→dT T D k∨w.heap.size≤k:=fun k ⟨e,he,hk⟩=>by
 rcases cz.1 he with rfl | he
 ·exact h1 k hk
 ·exact h k ⟨e,he,hk⟩
theorem Lg {l:List Tn} {o:Option Nat} {r':db} (j:Nat) (hj:D[j]? = some r') (hd:r'.dom=fun k=>o=some k) (h:∀ k,Eo l k→dT T D k∨w.heap.size≤k):∀ k,Eo (.blk o::l) k→dT T D k∨w.heap.size≤k:=JQ (fun k hk=>.inl (.inr ⟨r',a6 hj,by rw [hd]; exact hk⟩)) h
def Gi (N:Nat):cA:=⟨fun _ w=>N≤w.heap.size,fun h k _=>fB h k.size⟩
end
end
section
open Go.RowKit
variable {pos:String} {af:Array Edge} {g:Option (Nat×Bool)}
def o0 {α:Type} (xs:List α) (lo hi:Int):Option (List α):=if 0≤lo∧lo≤hi∧hi≤xs.length then some ((xs.take hi.toNat).drop lo.toNat) else none
def bH (n:Nat):Bool:=Nat.ble n 4294967296
theorem u4 {n:Nat} (h:bH n=true):n≤4294967296:=o4 h
def gd {α:Type} (b:Bool) (x:Option α):Option α:=cond b x none
theorem be {α:Type} {b:Bool} {x:Option α} {y:α} (h:gd b x=some y):b=true∧x=some y:=by cases b with
 | true=>exact⟨rfl,h⟩
 | false=>cases h
theorem bd {α β:Type} {o:Option α} {k:α→Option β} {y:β} (h:o.bind k=some y):∃ u,o=some u∧k u=some y:=F8.1 h
theorem ct {α:Type} {b:Bool} {x y:α} {r:α} (hb:b=true) (h:cond b x y=r):x=r:=by subst hb; exact h
theorem cf {α:Type} {b:Bool} {x y:α} {r:α} (hb:b=false) (h:cond b x y=r):y=r:=by subst hb; exact h
theorem Ho (b:Bool):b=true∨b=false:=by cases b <;> simp
theorem on:∀ u∈([]:bv),u.oneCell'=true:=fun u hu=>by cases hu
theorem oc {v:Value} {l:bv} (h:v.oneCell'=true) (k:∀ u∈l,u.oneCell'=true):∀ u∈v::l,u.oneCell'=true:=fun u hu=>by
 rcases cz.1 hu with rfl | hu
 ·exact h
 ·exact k u hu
inductive Fl (S R:Type) where
 | go (s:S)
 | out (r:R)
def zU {S R:Type} (body:S→Option (Fl S R)):Nat→S→Option R
 | 0,_=>none
 | n+1,s=>match body s with
  | none=>none
  | some (.out r)=>some r
  | some (.go s')=>zU body n s'
theorem Dw {S R:Type} {body:S→Option (Fl S R)}:∀ {n m:Nat} {s:S} {r q:R},zU body n s=some r→zU body m s=some q→r=q
 | 0,_,_,_,_,h,_=>by cases h
 | _,0,_,_,_,_,h=>by cases h
 | n+1,m+1,s,r,q,h,k=>by
  simp only [zU] at h k;cases hb:body s with
  | none=>rw [hb] at h; cases h
  | some f =>
   rw [hb] at h k;cases f with
   | out u=>simp only [fg] at h k; rw [← h,← k]
   | go u=>exact Dw h k
open Classical in
noncomputable def loop {S R:Type} (body:S→Option (Fl S R)) (s:S):Option R:=if h:∃ r n,zU body n s=some r then some h.choose else none
theorem w9 {S R:Type} {body:S→Option (Fl S R)} {s:S} {r:R}:loop body s=some r↔∃ n,zU body n s=some r:=by
 unfold loop;split
 ·rename_i h;obtain⟨n,hn⟩:=h.choose_spec;constructor
  ·intro e; simp only [fg] at e; rw [← e]; exact⟨n,hn⟩
  ·rintro⟨m,hm⟩; rw [Dw hn hm]
 ·rename_i h;constructor
  ·intro e; cases e
  ·rintro⟨m,hm⟩; exact absurd ⟨r,m,hm⟩ h
theorem Cw {S R:Type} {body:S→Option (Fl S R)} {s s':S} (h:body s=some (.go s')):loop body s=loop body s':=by
 apply Option.ext;intro r;rw [w9,w9];constructor
 ·rintro⟨n,hn⟩;cases n with
  | zero=>cases hn
  | succ n=>simp only [zU,h] at hn; exact⟨n,hn⟩
 ·rintro⟨n,hn⟩; exact⟨n+1,by simp only [zU,h]; exact hn⟩
theorem qh {S R:Type} {body:S→Option (Fl S R)} {s:S} {r:R} (h:body s=some (.out r)):loop body s=some r:=w9.2 ⟨1,by simp only [zU,h]⟩
section
variable {P:Program} {W:World} {M T E:Nat→Prop} {n:Nat} {G G':List (Nat×Value)} {D D':List db} {F F':List cA} {a:Act} {w w':World} {K:Act→World→Prop} {Q:Exit→Act→World→Prop}
theorem bF {S R:Type} {c:Code} (body:S→Option (Fl S R)) (I:S→Act→World→Prop) {s0:S} {r:R} (hl:loop body s0=some r) (h0:I s0 a w)
  (round:∀ s a w f,I s a w→body s=some f→(∀ u,f = .out u→u=r)→c.wp P (Exit.then (fun a' w'=>∃ s',f = .go s'∧I s' a' w') Q) a w):(Code.loop c).wp P Q a w:=by
 obtain⟨N,hN⟩:=w9.1 hl;intro b k cs;have key:∀ N s a w,zU body N s=some r→I s a w→∃ e a' w',Q e a' w'∧Arrives P (lone (b.at a (.code c :: .inLoop c::k)) cs w) b k cs e a' w':=by
  intro N
  induction N with
  | zero=>intro s a w h; cases h
  | succ N ih =>
   intro s a w h hI;simp only [zU] at h;cases hb:body s with
   | none=>rw [hb] at h; cases h
   | some f =>
    rw [hb] at h;obtain⟨e,a₁,w₁,hq,harr⟩:=round s a w f hI hb (fun u hu=>by subst hu; simp only [fg] at h; exact h) b (.inLoop c::k) cs;cases e with
    | normal =>
     obtain⟨s',hf,hI'⟩:=hq;subst hf;obtain⟨e₂,a₂,w₂,hq₂,harr₂⟩:=ih s' a₁ w₁ h hI';exact⟨e₂,a₂,w₂,hq₂,.of_steps (Steps.trans harr (.one step_inLoop)) harr₂⟩
    | exit id=>exact⟨_,a₁,w₁,hq,.pass (x:=.inLoop c) rfl (fun _ _=>.inl (by simp)) harr⟩
    | goto l=>exact⟨_,a₁,w₁,hq,.pass (x:=.inLoop c) rfl (fun _ _=>.inl (by simp)) harr⟩
    | ret=>exact⟨_,a₁,w₁,hq,.pass (x:=.inLoop c) rfl (fun _ _=>.inl (by simp)) harr⟩
    | panic ch=>exact⟨_,a₁,w₁,hq,.pass (x:=.inLoop c) rfl (fun _ _=>.inl (by simp)) harr⟩
    | outgrown=>exact⟨_,a₁,w₁,hq,.pass (x:=.inLoop c) rfl (fun _ _=>.inl (by simp)) harr⟩
 obtain⟨e,a',w',hq,harr⟩:=key N s0 a w hN h0;exact⟨e,a',w',hq,.of_steps (.one step_loop) harr⟩
theorem aK {x y:Code} (J:Act→World→Prop) (h1:x.wp P (Exit.then J Q) a w) (h2:∀ a w,J a w→y.wp P Q a w):(Code.seq x y).wp P Q a w :=
 wp_seq (wp_mono h1 fun e a w h=>by cases e <;> first | exact h2 a w h | exact h)
theorem Qi {c:Operand} {x y:Code} {b:Bool} (hS:St W M T n G D F a w) (hc:ev G c=some (.bool b)) (hb:b=true) (h:x.wp P Q a w):(Code.cond c x y).wp P Q a w:=wp_cond_true (by rw [hS.ev hc,hb]) h
theorem O8 {c:Operand} {x y:Code} {b:Bool} (hS:St W M T n G D F a w) (hc:ev G c=some (.bool b)) (hb:b=false) (h:y.wp P Q a w):(Code.cond c x y).wp P Q a w:=wp_cond_false (by rw [hS.ev hc,hb]) h
theorem ER {id:Nat} {l:List Oper} (h:wpList P l.toArray Q l a w):(Code.region id l.toArray false).wp P Q a w:=wp_region_lit h
def vL (P:Program) (a:Act) (w:World):List ResultVar→bv→Prop
 | [],[]=>True
 | .tmp t::r,v::vs=>a.tmps.getD t undef=v∧vL P a w r vs
 | .cell c t::r,v::vs=>(∃ p,a.tmps.getD c undef = .pointer (some p)∧(loadVar t p).run P w = .ok v w)∧vL P a w r vs
 | _,_=>False
def MY:bv→Value
 | [v]=>v
 | vs=>.tuple vs.toArray
def IM (tmps:Array Value):ResultVar→Sem Value
 | .tmp t=>pure (tmps.getD t undef)
 | .cell c t=>do loadVar t (← asAddr (tmps.getD c undef))
theorem CH:∀ {rs:List ResultVar} {vs:bv},vL P a w rs vs→(rs.mapM (IM a.tmps)).run P w = .ok vs w
 | [],[],_=>by simp
 | [],v::vs,h=>h.elim
 | .tmp t::r,[],h=>h.elim
 | .cell c t::r,[],h=>h.elim
 | .tmp t::r,v::vs,h=>by
  obtain⟨h1,h2⟩:=h;have hA:(IM a.tmps (.tmp t)).run P w = .ok v w:=by
   show (pure (a.tmps.getD t undef):Sem Value).run P w=_;rw [h1]; rfl
  rw [List.mapM_cons,Sem.run_bind,hA,Result.andThen_ok,Sem.run_bind,CH h2]; rfl
 | .cell c t::r,v::vs,h=>by
  obtain⟨⟨p,h0,h1⟩,h2⟩:=h;have hA:(IM a.tmps (.cell c t)).run P w = .ok v w:=by
   unfold IM;simp only;have:(asAddr (a.tmps.getD c undef)).run P w = .ok p w:=by rw [h0]; rfl
   rw [Sem.run_bind,this,Result.andThen_ok,h1]
  rw [List.mapM_cons,Sem.run_bind,hA,Result.andThen_ok,Sem.run_bind,CH h2]; rfl
theorem EW (fn:Func) (tmps:Array Value):results fn tmps=(do
  let vs ← fn.results.mapM (IM tmps)
  pure (if h:vs.size=1 then vs[0] else .tuple vs)):=rfl
theorem aI {fn:Func} {R:Value→World→Prop} {rs:List ResultVar} {vs:bv} (hS:St W M T n G D F a w) (hr:fn.results=rs.toArray) (h:vL P a w rs vs) (hR:R (MY vs) w):bodyPost P fn (Np M W R) .ret a w:=by
 refine⟨hS.defers,MY vs,?_,MY vs,rfl,hS.base,hR⟩;have h1:=CH h;rw [EW,hr,Array.mapM_eq_mapM_toList,Sem.run_bind,Sem.run_map,h1];cases vs with
 | nil=>rfl
 | cons v r =>
  cases r with
  | nil=>rfl
  | cons u s =>
   show Sem.run P (pure (if h:(u::s).length+1=1 then _ else _)) w=_;rw [dif_neg (by simp)];rfl
theorem aH:vL P a w [] []:=trivial
theorem aq {t:Nat} {v:Value} {r:List ResultVar} {vs:bv} (hS:St W M T n G D F a w) (hv:lk G t=some v) (h:vL P a w r vs):vL P a w (.tmp t::r) (v::vs) :=
 ⟨by have:=hS.slots t v hv; simp [Jc,this],h⟩
theorem bn {c:Nat} {t:TypeId} {b:Nat} {cs:bv} {bt:TypeId} {ag:Bool} {z:Nat} {r:List ResultVar} {vs:bv} (hS:St W M T n G D F a w) (hv:lk G c=some (.pointer (some ⟨b,0,none⟩))) (i:Nat) (hi:D[i]? = some (.box b cs bt)) (ht:n7 P t=some (ag,z)) (hl:cs.length=z) (hz:ag=false→z=1) (h:vL P a w r vs):vL P a w (.cell c t::r) (bp ag cs::vs):=by
 have hr:w.heap[b]? = some (.cells cs.toArray bt (0,0)):=hS.own _ (a6 hi);refine⟨⟨⟨b,0,none⟩,by have:=hS.slots c _ hv; simp [Jc,this],?_⟩,h⟩;exact BQ ht hl rfl hz w (fun j u hj=>by rw [cell_of_row _ _ _ _ _ _ hr,List.getElem?_toArray,tC]; exact hj)
theorem St.adds (h:St W M T n G D F a w) (k:Kt No w w'):∀ (rs:List db),(∀ r∈rs,r.ok w'∧∀ k,r.dom k→w.heap.size≤k)→(rs.Pairwise fun r s=>∀ k,r.dom k→¬ s.dom k)→St W M T n G (rs++D) F a w'
 | [],_,_=>h.later k
 | r::rs,hr,hp=>by
  obtain⟨hp1,hp2⟩:=o6.1 hp;have ih:=St.adds h k rs (fun s hs=>hr s (o8 _ hs)) hp2;obtain⟨q1,q2⟩:=hr r kh;refine⟨ih.size,ih.defers,ih.slots,ih.base,?_,?_,?_,fun f hf=>f.keep (h.facts f hf) k.no (fun j hj=>?_),ih.tlt⟩
  ·intro s hs;rcases cz.1 hs with rfl | hs
   ·exact q1
   ·exact ih.own s hs
  ·intro s hs j hj;rcases cz.1 hs with rfl | hs
   ·have:=q2 j hj;refine⟨fun ht=>?_,.inr ?_⟩
    ·have:=h.tlt j ht; omega
    ·have:=h.base.size; omega
   ·exact ih.free s hs j hj
  ·refine o6.2 ⟨fun s hs j hj hj2=>?_,ih.apart⟩;rcases dz.1 hs with hs | hs
   ·exact hp1 s hs j hj hj2
   ·have:=q2 j hj;have:=db.lt (h.own s hs) j hj2;omega
  ·rcases hj with hj | ⟨s,hs,hj⟩
   ·exact .inl (.inl hj)
   ·rcases cz.1 hs with rfl | hs
    ·exact .inr (q2 j hj)
    ·rcases dz.1 hs with hs | hs
     ·exact .inr ((hr s (o8 _ hs)).2 j hj)
     ·exact .inl (.inr ⟨s,hs,hj⟩)
theorem ei {w0:World} {r:db} (h:r.ok w') (hf:∀ k,r.dom k→w0.heap.size≤k):∀ s∈[r],s.ok w'∧∀ k,s.dom k→w0.heap.size≤k:=fun s hs=>by
 rw [eG] at hs; subst hs; exact⟨h,hf⟩
theorem KO {w0:World} {r s:db} (h:r.ok w') (hf:∀ k,r.dom k→w0.heap.size≤k) (h2:s.ok w') (hf2:∀ k,s.dom k→w0.heap.size≤k):∀ q∈[r,s],q.ok w'∧∀ k,q.dom k→w0.heap.size≤k:=fun q hq=>by
 simp only [cz,gn,or_false] at hq;rcases hq with rfl | rfl
 ·exact⟨h,hf⟩
 ·exact⟨h2,hf2⟩
theorem sP (r:db):[r].Pairwise fun r s=>∀ k,r.dom k→¬ s.dom k:=BY _ _
theorem Qs {r s:db} (h:∀ k,r.dom k→¬ s.dom k):[r,s].Pairwise fun r s=>∀ k,r.dom k→¬ s.dom k:=by
 simp only [o6,eG,forall_eq,gn,false_implies,implies_true,tD,and_true];exact h
theorem iB {T:Nat→Prop} {D rs:List db} (w:World):Nw (dT (dT T D) rs) (dT T (rs++D)) w:=fun k hk=>.inl (by
 rcases hk with hk | ⟨r,hr,hk⟩
 ·exact .inl (.inl hk)
 ·rcases dz.1 hr with hr | hr
  ·exact .inr ⟨r,hr,hk⟩
  ·exact .inl (.inr ⟨r,hr,hk⟩))
def Er (F:List cA):List cA→Prop
 | []=>True
 | f::r=>(∃ i:Nat,F[i]? = some f)∧Er F r
theorem Er.mem {F:List cA}:∀ {F':List cA},Er F F'→∀ f∈F',f∈F
 | [],_,f,hf=>by cases hf
 | g::r,h,f,hf=>by
  rcases cz.1 hf with rfl | hf
  ·obtain⟨⟨i,hi⟩,_⟩:=h; exact a6 hi
  ·exact Er.mem h.2 f hf
def n9 (D:List db):List Nat→List db→Prop
 | [],[]=>True
 | i::r,d::s=>D[i]? = some d∧n9 D r s
 | _,_=>False
theorem n9.get {D:List db}:∀ {is:List Nat} {D':List db},n9 D is D'→∀ d∈D',∃ i∈is,D[i]? = some d
 | [],[],_,d,hd=>by cases hd
 | [],_::_,h,_,_=>h.elim
 | _::_,[],h,_,_=>h.elim
 | i::r,e::s,h,d,hd=>by
  rcases cz.1 hd with rfl | hd
  ·exact⟨i,kh,h.1⟩
  ·obtain⟨j,hj,h2⟩:=n9.get h.2 d hd; exact⟨j,o8 _ hj,h2⟩
theorem n9.pw {D:List db} (hp:D.Pairwise fun r s=>∀ k,r.dom k→¬ s.dom k):∀ {is:List Nat} {D':List db},n9 D is D'→is.Nodup→D'.Pairwise fun r s=>∀ k,r.dom k→¬ s.dom k
 | [],[],_,_=>tD
 | [],_::_,h,_=>h.elim
 | _::_,[],h,_=>h.elim
 | i::r,e::s,h,hn=>by
  obtain⟨n1,n2⟩:=yP.1 hn;refine o6.2 ⟨fun d hd k hk hk2=>?_,n9.pw hp h.2 n2⟩;obtain⟨j,hj,h2⟩:=n9.get h.2 d hd;have hij:i≠j:=fun e=>n1 (e▸hj);obtain⟨l1,e1⟩:=bN.1 h.1;obtain⟨l2,e2⟩:=bN.1 h2;rcases AQ hij with hlt | hlt
  ·exact gG.1 hp i j l1 l2 hlt k (by rw [e1]; exact hk) (by rw [e2]; exact hk2)
  ·exact gG.1 hp j i l2 l1 hlt k (by rw [e2]; exact hk2) (by rw [e1]; exact hk)
theorem St.meet (h:St W M T n G D F a w) (is:List Nat) (hn:is.Nodup) (hG:KL G G') (hD:n9 D is D') (hF:Er F F'):St W M T n G' D' F' a w :=
 ((h.slot hG).sel hF.mem).res (fun r hr=>by obtain⟨i,_,hi⟩:=hD.get r hr; exact a6 hi) (hD.pw h.apart hn)
theorem nt {b:Bool} (h:b=true):(!b)=false:=by rw [h]; rfl
theorem nf {b:Bool} (h:b=false):(!b)=true:=by rw [h]; rfl
def Fl.el {S R α:Type} (f:Fl S R) (g:S→α) (h:R→α):α:=match f with
 | .go s=>g s
 | .out r=>h r
theorem Oh {S R α:Type} {s:S} {g:S→α} {h:R→α} {r:α} (e:Fl.el (.go s) g h=r):g s=r:=e
theorem kl {S R α:Type} {s:R} {g:S→α} {h:R→α} {r:α} (e:Fl.el (.out s) g h=r):h s=r:=e
def aT (P:Program) (f:Nat):Bool:=match P.funcs[f]? with
 | some fn => !(fn.name == "runtime.NumGoroutine") && fn.body.isSome
 | none=>false
theorem Hq {f:Nat} (hf:aT P f=true) (args:Array Value) (w:World):(callFunc f args).run P w = .ok (.enter f args) w:=by
 unfold aT at hf;split at hf
 ·rename_i fn hfn;simp only [so, tF] at hf;obtain⟨b, hb⟩ := Option.isSome_iff_exists.1 hf.2;have h1 : ¬ (fn.name == "runtime.NumGoroutine") = true := by rw [hf.1]; simp
  simp [callFunc,hfn,hb,h1];simpa using h1
 ·cases hf
theorem w7 {o:Oper} {x:Operand} {args:Array Operand} {tys:Array TypeId} {f:Nat} {vs cap:bv} {R:Value→World→Prop} {M':Nat→Prop} (ho:o.op = .call { callee:=.value x,args:=args,argTypes:=tys }) (hS:St W M T n G D F a w) (hx:ev G x=some (.func (.func f) #[] cap.toArray)) (hf:aT P f=true) (hargs:evs G args.toList=some vs) (hc:bj P M' f (vs++cap) w R)
  (k:∀ v w',Kt M' w w'→R v w'→K (a.put o.dst v) w'):qT P o a w K:=fun K' Q hK=>by
 have h1:(args.map a.eval)=vs.toArray:=by
  apply Ee.1;rw [Array.toList_map,hS.evs hargs]
 have hr:(execOp a.eval o).run P w = .ok (.enter f (vs++cap).toArray) w:=by
  simp [execOp,ho,resolve,hS.ev hx,Deferred.ofValue,invoke,h1,Hq hf]
 unfold Oper.wp;rw [hr,Oper.upon_enter];exact Calls.mono hc fun e w' ⟨v,h1,h2,h3⟩=>by subst h1; exact hK _ _ (k v w' h2 h3)
theorem bg {d:Nat} {ty:TypeId} {args:Array Operand} {tys:Array TypeId} {f:Nat} {vs:bv} {R:Value→World→Prop} (hS:St W M T n G D F a w) (hf:aT P f=true) (hargs:evs G args.toList=some vs) (hn:Nat.blt d n=true) (hc:bj P No f vs w R)
  (k:∀ v w',R v w'→∀ a,Kt No w w'→(∀ rs:List db,(∀ r∈rs,r.ok w'∧∀ k,r.dom k→w.heap.size≤k)→(rs.Pairwise fun r s=>∀ k,r.dom k→¬ s.dom k)→St W M T n ((d,v)::G) (rs++D) F a w')→K a w'):qT P ⟨some d,.call { callee:=.value (.func f),args:=args,argTypes:=tys },ty,pos,af,g⟩ a w K :=
 w7 (cap:=[]) rfl hS rfl hf hargs (by rw [uo]; exact hc) fun v w' hk hr=>k v w' hr _ hk (fun rs h1 h2=>(hS.adds hk rs h1 h2).put hn v)
theorem tQ {d:Nat} {ty:TypeId} {x:Operand} {args:Array Operand} {tys:Array TypeId} {f:Nat} {vs cap:bv} {R:Value→World→Prop} (hS:St W M T n G D F a w) (hx:ev G x=some (.func (.func f) #[] cap.toArray)) (hf:aT P f=true) (hargs:evs G args.toList=some vs) (hn:Nat.blt d n=true) (hc:bj P No f (vs++cap) w R)
  (k:∀ v w',R v w'→∀ a,Kt No w w'→(∀ rs:List db,(∀ r∈rs,r.ok w'∧∀ k,r.dom k→w.heap.size≤k)→(rs.Pairwise fun r s=>∀ k,r.dom k→¬ s.dom k)→St W M T n ((d,v)::G) (rs++D) F a w')→K a w'):qT P ⟨some d,.call { callee:=.value x,args:=args,argTypes:=tys },ty,pos,af,g⟩ a w K :=
 w7 rfl hS hx hf hargs hc fun v w' hk hr=>k v w' hr _ hk (fun rs h1 h2=>(hS.adds hk rs h1 h2).put hn v)
theorem cC {d:Nat} {ty:TypeId} {args:Array Operand} {tys:Array TypeId} {f:Nat} {vs:bv} {R:Value→World→Prop} {b:Nat} {cs:bv} {bt:TypeId} (hS:St W M T n G D F a w) (hf:aT P f=true) (hargs:evs G args.toList=some vs) (hn:Nat.blt d n=true) (i:Nat) (hi:D[i]? = some (.box b cs bt)) (hc:bj P (fun k=>k=b) f vs w R)
  (k:∀ v w',R v w'→Kt (fun k=>k=b) w w'→∃ cs',w'.heap[b]? = some (.cells cs'.toArray bt (0,0))∧∀ a,St W M T n ((d,v)::G) (D.set i (.box b cs' bt)) F a w'→K a w'):qT P ⟨some d,.call { callee:=.value (.func f),args:=args,argTypes:=tys },ty,pos,af,g⟩ a w K :=
 w7 (cap:=[]) rfl hS rfl hf hargs (by rw [uo]; exact hc) fun v w' hk hr=>by
  obtain⟨cs',h1,h2⟩:=k v w' hr hk;exact h2 _ ((hS.turn hi (hk.mono fun j hj=>by simp [db.dom,hj]) (r':=.box b cs' bt) h1 (fun j hj=>.inl hj)).put hn v)
theorem qz {t e:TypeId} {z b o m c:Nat} {k:IntKind} {i:Int} (ht:lm P t=some e) {ag:Bool} (he:n7 P e=some (ag,z)) (h0:0≤i) (h1:i<m) (w:World):(Instr.indexAt t (.slice (some ⟨b,o,none⟩) m c) (.int k i)).run P w = .ok (.pointer (some ⟨b,o+i.toNat*z,none⟩)) w:=by
 simp [Instr.indexAt,asIntOf,run_underlying (rN ht),h0,h1,qA he,lp]
theorem bm {α:Type} {R:aY α} {xs:List α} {x:α} {d:Nat} {t e ty:TypeId} {X Y:Operand} {v:Value} {k:IntKind} {i:Int} {ag:Bool} (hS:St W M T n G D F a w) (ht:lm P t=some e) (he:n7 P e=some (ag,R.size)) (hX:ev G X=some v) (hY:ev G Y=some (.int k i)) (j:Nat) (hj:F[j]? = some (aR R v xs)) (hg:bu xs i=some x) (hn:Nat.blt d n=true)
  (K':∀ b o cs,R.rel (dT T D) w cs x→∀ a,St W M T n ((d,.pointer (some ⟨b,o,none⟩))::G) D (ln b o cs::F) a w→K a w):qT P ⟨some d,.indexAddr t X Y,ty,pos,af,g⟩ a w K:=by
 obtain⟨b,o,c,rfl,_,cs,h1,h2⟩:=aE.get (hS.get j hj:aE R (dT T D) w v xs) hg;obtain⟨q1,q2,_⟩:=gK hg;have hr:(execOp a.eval ⟨some d,.indexAddr t X Y,ty,pos,af,g⟩).run P w = .ok (.value (.pointer (some ⟨b,o+i.toNat*R.size,none⟩))) w:=by simp [execOp,hS.ev hX,hS.ev hY,qz ht he q1 q2]
 exact ux hr (K' b _ cs h1 _ ((hS.put hn _).fact (ln b _ cs) h2))
theorem jj {α:Type} {R:aY α} {xs:List α} {x:α} {e t:TypeId} {v:Value} {i:Int} {ag:Bool} (hS:St W M T n G D F a w) (ht:lm P t=some e) (he:n7 P e=some (ag,R.size)) (j:Nat) (hj:F[j]? = some (aR R v xs)) (hg:bu xs i=some x) :
  ∃ b o cs,R.rel (dT T D) w cs x∧(∀ {E:Nat→Prop} {d:Option Nat} {ty:TypeId} {X Y:Operand} {pos:String} {af:Array Edge} {g:Option (Nat×Bool)} {k:IntKind},ev G X=some v→ev G Y=some (.int k i)→Ye P ⟨d,.indexAddr t X Y,ty,pos,af,g⟩ a E w (.pointer (some ⟨b,o,none⟩)))∧St W M T n G D (ln b o cs::F) a w:=by
 obtain⟨b,o,c,rfl,_,cs,h1,h2⟩:=aE.get (hS.get j hj:aE R (dT T D) w v xs) hg;obtain⟨q1,q2,_⟩:=gK hg;refine⟨b,_,cs,h1,fun hX hY=>Ye.of fun w=>by simp [execOp,hS.ev hX,hS.ev hY,qz ht he q1 q2],hS.fact (ln b _ cs) h2⟩
end
end
section
open Go.RowKit
variable {pos:String} {af:Array Edge} {g:Option (Nat×Bool)}
def zJ (P:Program) (t:TypeId):Option (TypeId×Nat×Nat):=match P.underlying t with
 | some (.slice e)=>match P.info? e with
  | some i=>match i.zero with
   | some z=>cond (Nat.beq z.cells.size i.size&&Nat.blt 0 i.size) (some (e,i.size,i.bytes)) none
   | none=>none
  | none=>none
 | _=>none
theorem tP {P:Program} {t e:TypeId} {sz bt:Nat} (h:zJ P t=some (e,sz,bt)):C5 P t e sz bt:=by
 unfold zJ at h;split at h
 ·rename_i e' hu;split at h
  ·rename_i i hi;split at h
   ·rename_i z hz;cases hc:(Nat.beq z.cells.size i.size&&Nat.blt 0 i.size) with
    | false=>rw [hc] at h; cases h
    | true =>
     rw [hc] at h;simp only [cond_true,fg,AS] at h;obtain⟨rfl,rfl,rfl⟩:=h;simp only [so] at hc;exact⟨hu,⟨i,z,hi,hz,rfl,rfl,AP hc.1⟩,o4 hc.2⟩
   ·cases h
  ·cases h
 ·cases h
def PW (len size:Nat):List (Nat×Nat):=(List.range len).map fun i=>(i*size,size)
def Qh (zc:bv) (k:Nat):bv:=((Array.range k).map (zc.toArray[· % zc.toArray.size]!)).toList
section
variable {P:Program} {W:World} {M T E:Nat→Prop} {n:Nat} {G G':List (Nat×Value)} {D D':List db} {F F':List cA} {a:Act} {w w':World} {K:Act→World→Prop} {Q:Exit→Act→World→Prop}
theorem a8 {d:Nat} {t e ty:TypeId} {len:Nat} {ps:List (Nat×Operand)} {sz bt:Nat} {zs zl ws:bv} {us:List (bv)} {vs:List (Nat×Value)} (hS:St W M T n G D F a w) (he:zJ P t=some (e,sz,bt)) (hz:i7 P e=some zs) (hzl:Qh zs (len*sz)=zl) (hv:evp G ps=some vs) (hcs:Cs vs us) (hf:Bv (PW len sz) zl vs us=some ws) (hl:Nat.ble (len*sz) 1000=true) (hl0:Nat.blt 0 len=true) (hn:Nat.blt d n=true)
  (k:∀ b a w',Kt No w w'→St W M T n ((d,.slice (some ⟨b,0,none⟩) len len)::G) (.box b ws e::D) F a w'→K a w'):qT P ⟨some d,.buildSlice t len ps.toArray,ty,pos,af,g⟩ a w K:=by
 obtain⟨ht,⟨i,z,hi,hz0,hsz,hby,hzc⟩,hpos⟩:=tP he;have hzz:z.cells.toList=zs:=by
  unfold i7 at hz;rw [hi] at hz;simp only [hz0,fg] at hz;exact hz
 have h1:=o4 hl;have h2:0<len:=o4 hl0;have hfill:=Ce (place:=fun i=>some (i*sz,sz)) (pl:=PW len sz) (fun i q hq=>by
  unfold PW at hq;rw [uq] at hq;cases hr:(List.range len)[i]? with
  | none=>rw [hr] at hq; cases hq
  | some j =>
   rw [hr] at hq;simp only [o7,fg] at hq;have:=bN.1 hr;obtain⟨_,hj⟩:=this;simp only [F9] at hj;subst hj; rw [← hq]) vs us zl ws hcs hf
 subst hsz;have hcells:((Array.range (len*i.size)).map (z.cells[· % z.cells.size]!))=zl.toArray:=by
  rw [← hzl]; unfold Qh; rw [← hzz]
 have hev:(ps.toArray.map (fun p=>(p.1,a.eval p.2))).toList=vs:=by rw [← hS.evp hv]; simp
 have hr:(Instr.buildSlice t len (ps.toArray.map (fun p=>(p.1,a.eval p.2)))).run P w = .ok (.slice (some ⟨w.heap.size,0,none⟩) len len) (w.alloc (.cells ws.toArray e)) :=
  run_buildSlice w t e len _ ws.toArray i z ht hi hz0 (by omega) (by have:=Nat.mul_pos h2 hpos; omega) (by rw [hcells,hev]; exact hfill)
 have hr2:(execOp a.eval ⟨some d,.buildSlice t len ps.toArray,ty,pos,af,g⟩).run P w = .ok (.value (.slice (some ⟨w.heap.size,0,none⟩) len len)) (w.alloc (.cells ws.toArray e)):=by
  show (do pure (Next.value (← Instr.buildSlice t len (ps.toArray.map fun p=>(p.1,a.eval p.2)))):Sem Next).run P w=_;rw [Sem.run_bind,hr]; rfl
 exact ux hr2 (k w.heap.size _ _ (Kt.alloc _ _) ((hS.alloc ws e).put hn _))
theorem St.lit {α:Type} {R:aY α} {b m:Nat} {us:bv} {e:TypeId} {xs:List α} (hS:St W M T n G D F a w) (i:Nat) (hi:D[i]? = some (.box b us e)) (hR:0<R.size) (hr:aA R (dT T D) w us xs) (hm:m=xs.length) (hlim:Nat.ble m 1000=true):St W M T n G (D.set i (.own (.slice (some ⟨b,0,none⟩) m m) e R.size us)) (an R us xs::F) a w:=by
 have hok:=hS.own _ (a6 hi);have h1:=o4 hlim;subst hm;have h2:=hS.fact (an R us xs) hr;refine h2.turn hi (au _ _) ⟨.inr ⟨b,0,xs.length,xs.length,us.toArray,rfl,hr.1,cR _,.of hok,cX _,by unfold maxLen; omega,by rw [tC,← hr.1]; simp,fun j u hu=>by rw [tC]; simpa using hu⟩,hR⟩ (fun j hj=>.inl hj)
theorem St.nilRow {α:Type} (R:aY α) (e:TypeId) (hR:0<R.size) (hS:St W M T n G D F a w):St W M T n G (.own (.slice none 0 0) e R.size []::D) (an R [] []::F) a w :=
 (hS.add (au _ _) (.own (.slice none 0 0) e R.size []) ⟨rj.nil_ _ _ _ _,hR⟩ (fun k hk=>by simp [db.dom,Value.ownBlock] at hk)).fact _ (aA.nil_ _ _ _)
theorem Jt {o:Oper} {s x:Operand} {t e:TypeId} {sz bt:Nat} {v:Value} {cl news:bv} {A:Option Addr} {m c:Nat} (ho:o.op = .call { callee:=.builtin .append,args:=#[s,x],argTypes:=#[t,t] }) (hS:St W M T n G D F a w) (he:zJ P t=some (e,sz,bt)) (hs:ev G s=some v) (hx:ev G x=some (.slice A m c)) (hown:rj w 0 e sz v cl) (hl:news.length=m*sz) (hat:At w A news) (h1:∀ u∈news,u.oneCell'=true) (hz:(cl.length+news.length)≤4294967296*sz) (hb:Nat.ble (sz*bt) 32768=true) (hbs:Nat.ble sz 32768=true)
  (k:∀ v' w',Kt (fun j=>v.ownBlock=some j) w w'→rj w' 0 e sz v' (cl++news)→(∀ j,v'.ownBlock=some j→v.ownBlock=some j∨w.heap.size≤j)→K (a.put o.dst v') w'):qT P o a w K:=fun K' Q hK=>by
 have q1:=o4 hb;have q2:=o4 hbs;have q3:(cl.length+news.length)*bt≤4294967296*(sz*bt):=by rw [← Nat.mul_assoc]; exact kQ _ hz
 exact wb w s x t ho e sz bt (tP he) 0 v cl (hS.ev hs) hown A m c news (hS.ev hx) hl hat h1 (by unfold maxLen; omega) (by omega) (cR _) fun v' w' h2 h3 h4=>hK _ _ (k v' w' (Kt.grown h3) h2 (fun j hj=>by
  rcases h4 with h4 | h4
  ·exact .inl (h4▸hj)
  ·rw [h4] at hj; injection hj with hj; exact .inr (by omega)))
theorem bM {α:Type} {R:aY α} {xs ys:List α} {d:Nat} {ty t e:TypeId} {s x:Operand} {bt:Nat} {v u:Value} {cl:bv} (hS:St W M T n G D F a w) (he:zJ P t=some (e,R.size,bt)) (hb:Nat.ble (R.size*bt) 32768=true) (hbs:Nat.ble R.size 32768=true) (hs:ev G s=some v) (hx:ev G x=some u) (i:Nat) (hi:D[i]? = some (.own v e R.size cl)) (p:Nat) (hp:F[p]? = some (an R cl xs)) (q:Nat) (hq:F[q]? = some (aR R u ys)) (hroom:bH (xs.length+ys.length)=true) (hn:Nat.blt d n=true)
  (k:∀ v' cl' a w',Kt (fun j=>v.ownBlock=some j) w w'→St W M T n ((d,v')::G) (D.set i (.own v' e R.size cl')) (an R cl' (xs++ys)::F) a w'→K a w'):qT P ⟨some d,.call { callee:=.builtin .append,args:=#[s,x],argTypes:=#[t,t] },ty,pos,af,g⟩ a w K:=by
 obtain⟨hown,hsz⟩:=hS.own _ (a6 hi);have hrow:aA R (dT T D) w cl xs:=hS.get p hp;have hsl:aE R (dT T D) w u ys:=hS.get q hq;obtain⟨A,c,rfl,_⟩:=id hsl;obtain⟨_,cs,hat,hr⟩:=hsl.rows hsz;have h1:=u4 hroom;refine Jt rfl hS he hs hx hown hr.1 hat (hr.cell hsz) (by rw [hrow.1,hr.1,← kf]; exact kQ _ h1) hb hbs fun v' w' h2 h3 h4=>?_;have h5:=hS.fact (an R (cl++cs) (xs++ys)) (hrow.append hr);exact k v' (cl++cs) _ w' h2 ((h5.turn hi (r':=.own v' e R.size (cl++cs)) h2 ⟨h3,hsz⟩ h4).put hn v')
theorem yb (z:Array Value):∀ m:Nat,(madeCells z (m*z.size)).toList=(List.replicate m z.toList).flatten
 | 0=>by simp [madeCells]
 | m+1=>by
  have ih:=yb z m;have h1:∀ N,(madeCells z N).toList=(List.range N).map (fun k=>z[k % z.size]!):=fun N=>by simp [madeCells]
  rw [h1] at ih ⊢;rw [show (m+1)*z.size=z.size+m*z.size by rw [kf]; omega,List.range_add,ur,AT,List.replicate_succ,List.flatten_cons,← ih];congr 1
  ·apply F5;intro k;rw [uq];by_cases hk:k<z.size
   ·rw [List.getElem?_range hk,o7,Nat.mod_eq_of_lt hk,getElem!_pos z k hk];simp [hk]
   ·rw [tG (by simpa using hk),tG (by simpa using hk)]; rfl
  ·apply List.map_congr_left;intro k _;simp only [Function.comp,Nat.add_mod_left]
theorem aA.rep {α:Type} {R:aY α} {T:Nat→Prop} {w:World} {cs:bv} {x:α} (h:R.rel T w cs x):∀ m:Nat,aA R T w (List.replicate m cs).flatten (List.replicate m x)
 | 0=>aA.nil_ _ _ _
 | m+1=>by rw [List.replicate_succ,List.replicate_succ,List.flatten_cons]; exact (aA.one_ h).append (aA.rep h m)
theorem MK {α:Type} {R:aY α} {z0:α} {d:Nat} {ty t e:TypeId} {x y:Operand} {bt:Nat} {zs:bv} {kx ky:IntKind} {len:Int} (hS:St W M T n G D F a w) (he:zJ P t=some (e,R.size,bt)) (hz:i7 P e=some zs) (hb:Nat.ble (R.size*bt) 32768=true) (hx:ev G x=some (.int kx len)) (hy:ev G y=some (.int ky len)) (h0:decide (0≤len)=true) (hroom:bH len.toNat=true) (hr:R.rel (dT T D) w zs z0) (hn:Nat.blt d n=true)
  (k:∀ v' cl' a w',Kt No w w'→St W M T n ((d,v')::G) (.own v' e R.size cl'::D) (an R cl' (List.replicate len.toNat z0)::F) a w'→K a w'):qT P ⟨some d,.makeSlice t x y,ty,pos,af,g⟩ a w K:=by
 obtain⟨ht,⟨i,z,hi,hz0,hsz,hby,hzc⟩,hpos⟩:=tP he;have h0:=of_decide_eq_true h0;have hzz:z.cells.toList=zs:=by
  unfold i7 at hz;rw [hi] at hz;simp only [hz0,fg] at hz;exact hz
 have h1:=u4 hroom;have q1:=o4 hb;subst hby;have hbt:i.bytes≤32768:=fB (Nat.le_mul_of_pos_left _ hpos) q1;obtain⟨m,rfl⟩:∃ m:Nat,len=m:=⟨len.toNat,by omega⟩;rw [tH] at *;have hmul:i.bytes*m≤32768*4294967296:=Nat.mul_le_mul hbt h1;have hbi:(i.bytes:Int)*(m:Int)≤281474976710656:=by
  have:((i.bytes*m:Nat):Int)≤281474976710656:=by omega
  rwa [Int.natCast_mul] at this
 have hrun:=run_make (P:=P) w t e i z ht hi hz0 kx ky (m:Int) (m:Int) (by omega) (by omega) hbi (by omega);rw [tH,hsz] at hrun;have hfl:(madeCells z.cells (m*R.size)).toList=(List.replicate m zs).flatten:=by rw [← hzc,yb,hzz]
 have hrow:=aA.rep hr m;have hown:rj (w.alloc (.cells (madeCells z.cells (m*R.size)) e)) 0 e R.size (.slice (some ⟨w.heap.size,0,none⟩) m m) (List.replicate m zs).flatten:=by
  rw [← hfl];exact rj.lit w 0 e R.size _ m (cR _) (size_madeCells _ _) (by unfold maxLen; omega)
 have hr2:(execOp a.eval ⟨some d,.makeSlice t x y,ty,pos,af,g⟩).run P w = .ok (.value (.slice (some ⟨w.heap.size,0,none⟩) m m)) (w.alloc (.cells (madeCells z.cells (m*R.size)) e)):=by
  simp [execOp,hS.ev hx,hS.ev hy,hrun]
 have hS2:=hS.fact (an R (List.replicate m zs).flatten (List.replicate m z0)) hrow;exact ux hr2 (k _ _ _ _ (Kt.alloc _ _) ((hS2.add (Kt.alloc _ _) (.own (.slice (some ⟨w.heap.size,0,none⟩) m m) e R.size (List.replicate m zs).flatten) ⟨hown,hpos⟩ (fun j hj=>by simp only [db.dom,Value.ownBlock,fg] at hj; omega)).put hn _))
theorem wM {isS:Bool} {len cap:Nat} {k1 k2:IntKind} {lo hi:Int} (h0:0≤lo) (h1:lo≤hi) (h2:hi≤len) (h3:len≤cap) (w:World) (olo ohi:Option Value) (hlo:olo=some (.int k1 lo)∨(olo=none∧lo=0)) (hhi:ohi=some (.int k2 hi)∨(ohi=none∧hi=len)):(Instr.sliceBounds isS len cap olo ohi none).run P w = .ok (lo.toNat,hi.toNat,cap) w:=by
 have a1:hi≤cap:=by omega
 have a2:0≤hi:=by omega
 have a3:lo≤(hi.toNat:Int):=by omega
 rcases hlo with rfl | ⟨rfl,rfl⟩ <;> rcases hhi with rfl | ⟨rfl,rfl⟩
 ·simp [Instr.sliceBounds,Instr.sliceBound,asIntOf,h0,a1,a2,a3];intro h;omega
 ·simp [Instr.sliceBounds,Instr.sliceBound,asIntOf,h0,h1]
 ·simp [Instr.sliceBounds,Instr.sliceBound,asIntOf,a1,a2]
 ·simp [Instr.sliceBounds]
theorem rA {α:Type} {xs ys:List α} {lo hi:Int} (h:o0 xs lo hi=some ys):0≤lo∧lo≤hi∧hi≤xs.length∧ys=(xs.take hi.toNat).drop lo.toNat:=by
 unfold o0 at h;split at h
 ·rename_i hc; injection h with h; exact⟨hc.1,hc.2.1,hc.2.2,h.symm⟩
 ·cases h
theorem aE.cut {α:Type} {R:aY α} {T:Nat→Prop} {A:Option Addr} {c l h:Nat} {xs:List α} (hs:aE R T w (.slice A xs.length c) xs) (h1:l≤h) (h2:h≤xs.length) (B:Option Addr) (hB:l<h→∀ b o,A=some ⟨b,o,none⟩→B=some ⟨b,o+l*R.size,none⟩):aE R T w (.slice B (h-l) (c-l)) ((xs.take h).drop l):=by
 obtain⟨A',c',e,q1,q2,q3⟩:=hs;injection e with e1 e2 e3;subst e1 e3;have hlen:((xs.take h).drop l).length=h-l:=by simp; omega
 refine⟨B,c-l,by rw [hlen],by omega,by omega,?_⟩;by_cases hlt:l<h
 ·rcases q3 with q3 | ⟨b,off,rfl,hc⟩
  ·subst q3; simp at h2; omega
  ·refine .inr ⟨b,off+l*R.size,hB hlt b off rfl,fun k x hx=>?_⟩;rw [sj,qV] at hx;split at hx
   ·obtain⟨cs,g1,g2⟩:=hc _ x hx;exact⟨cs,g1,by rwa [show off+l*R.size+k*R.size=off+(l+k)*R.size by rw [kf]; omega]⟩
   ·cases hx
 ·left;apply yN; omega
theorem H2 {α:Type} {R:aY α} {xs ys:List α} {d:Nat} {t e ty:TypeId} {X:Operand} {olo ohi:Option Operand} {v:Value} {k1 k2:IntKind} {lo hi:Int} {ag:Bool} (hS:St W M T n G D F a w) (ht:lm P t=some e) (he:n7 P e=some (ag,R.size)) (hX:ev G X=some v) (hlo:(∃ x,olo=some x∧ev G x=some (.int k1 lo))∨(olo=none∧lo=0)) (hhi:(∃ x,ohi=some x∧ev G x=some (.int k2 hi))∨(ohi=none∧hi=xs.length)) (j:Nat) (hj:F[j]? = some (aR R v xs)) (hg:o0 xs lo hi=some ys) (hn:Nat.blt d n=true)
  (K':∀ v' a,St W M T n ((d,v')::G) D (aR R v' ys::F) a w→K a w):qT P ⟨some d,.slice t X olo ohi none,ty,pos,af,g⟩ a w K:=by
 obtain⟨q1,q2,q3,rfl⟩:=rA hg;have hsl:aE R (dT T D) w v xs:=hS.get j hj;obtain⟨A,c,rfl,p1,p2⟩:=hsl.len;have hb:=wM (P:=P) (isS:=true) (k1:=k1) (k2:=k2) q1 q2 q3 p1 w (olo.map a.eval) (ohi.map a.eval)
  (by
    rcases hlo with⟨x,rfl,hx⟩|⟨rfl,rfl⟩
    ·exact .inl (by rw [o7,hS.ev hx])
    ·exact .inr ⟨rfl,rfl⟩)
  (by
    rcases hhi with⟨x,rfl,hx⟩|⟨rfl,rfl⟩
    ·exact .inl (by rw [o7,hS.ev hx])
    ·exact .inr ⟨rfl,rfl⟩)
 have hr:(execOp a.eval ⟨some d,.slice t X olo ohi none,ty,pos,af,g⟩).run P w = .ok (.value (.slice (if c=lo.toNat then A else A.map (·.add (lo.toNat*R.size))) (hi.toNat-lo.toNat) (c-lo.toNat))) w:=by
  have hx:=hS.ev hX;simp [execOp,Instr.sliceAt,Instr.slice,run_underlying (rN ht),hx,hb,qA he]
 refine ux hr (K' _ _ ((hS.put hn _).fact (aR R _ _) ?_));refine hsl.cut (by omega) (by omega) _ (fun hlt b o hA=>?_);rw [if_neg (by omega),hA];simp [lp]
end
end
section
open Go.RowKit
variable {pos:String} {af:Array Edge} {g:Option (Nat×Bool)}
def KJ (D:List db):List db→Prop
 | []=>True
 | r::s=>(r.bare=true∨r∈D)∧KJ D s
theorem KJ.sub {T:Nat→Prop} {D:List db}:∀ {rs:List db},KJ D rs→∀ k,dT T rs k→dT T D k
 | [],_,k,hk=>by
  rcases hk with hk | ⟨r,hr,_⟩
  ·exact .inl hk
  ·cases hr
 | r::s,h,k,hk=>by
  rcases Fx.1 hk with hk | hk
  ·exact KJ.sub h.2 k hk
  ·rcases h.1 with h1 | h1
   ·exact absurd hk (db.bare_no h1 k)
   ·exact .inr ⟨r,h1,hk⟩
def gg {α:Type} (R:aY α) (T:Nat→Prop) (W w:World) (rs:List db) (e:TypeId) (v:Value) (cl:bv) (xs:List α):Prop :=
 rj w 0 e R.size v cl∧(∀ k,v.ownBlock=some k→W.heap.size≤k)∧aA R (dT T rs) w cl xs
theorem aE.dn {α:Type} {R:aY α} {T:Nat→Prop} {w:World} {v:Value} {xs:List α} (h:aE R T w v xs):aE R (dT T []) w v xs :=
 h.sub fun k hk=>.inl (by rcases hk with hk | ⟨r,hr,_⟩; exact hk; cases hr)
theorem aE.up {α:Type} {R:aY α} {T:Nat→Prop} {D rs:List db} {w:World} {v:Value} {xs:List α} (hi:KJ D rs) (h:aE R (dT T D) w v xs):aE R (dT T rs) w v xs :=
 h.sub fun k hk=>.inl (hi.sub k hk)
theorem gv {w:World} {B:Nat} {e:TypeId} {sz:Nat} {v:Value} {cl:bv} (h:rj w B e sz v cl):v.oneCell'=true:=by
 rcases h with⟨rfl,_⟩|⟨g,off,n,cap,cs,rfl,_⟩ <;> rfl
theorem eE {α:Type} (R:aY α) (T:Nat→Prop) (W w:World) (rs:List db) (e:TypeId):gg R T W w rs e (.slice none 0 0) [] [] :=
 ⟨rj.nil_ _ _ _ _,fun k hk=>by simp [Value.ownBlock] at hk,aA.nil_ _ _ _⟩
def Ci (op:BinOp) (k:IntKind) (x y:Int):Int :=
 let a:=BitVec.ofInt k.bits x
 let b:=BitVec.ofInt k.bits y
 match op with
 | .and=>k.wrap (a &&& b).toNat
 | .or=>k.wrap (a ||| b).toNat
 | .xor=>k.wrap (a ^^^ b).toNat
 | _=>k.wrap (a &&& ~~~b).toNat
def KP:BinOp→Bool
 | .and | .or | .xor | .andNot=>true
 | _=>false
section
variable {P:Program} {W:World} {M T E:Nat→Prop} {n:Nat} {G G':List (Nat×Value)} {D D' rs:List db} {F F':List cA} {a:Act} {w w':World} {K:Act→World→Prop} {Q:Exit→Act→World→Prop}
theorem St.retOwn {α:Type} {R:aY α} {v:Value} {e:TypeId} {cl:bv} {xs:List α} (h:St W No T n G D F a w) (hi:KJ D rs) (i:Nat) (hd:D[i]? = some (.own v e R.size cl)) (j:Nat) (hj:F[j]? = some (an R cl xs)):gg R T W w rs e v cl xs:=by
 have hm:=a6 hd;exact⟨(h.own _ hm).1,fun k hk=>(h.free _ hm k hk).2.resolve_left fun h=>h,(h.get j hj:aA R (dT T D) w cl xs).keep (au _ _) fun k hk=>.inl (hi.sub k hk)⟩
theorem St.apart2 {v v2:Value} {e e2:TypeId} {sz sz2:Nat} {cl wo:bv} (h:St W M T n G D F a w) (i:Nat) (hi:D[i]? = some (.own v e sz cl)) (j:Nat) (hj:D[j]? = some (.own v2 e2 sz2 wo)) (hij:i≠j):∀ k,v.ownBlock=some k→v2.ownBlock≠some k:=by
 intro k hk hk2;obtain⟨l1,e1⟩:=bN.1 hi;obtain⟨l2,e2⟩:=bN.1 hj;rcases AQ hij with hlt | hlt
 ·exact gG.1 h.apart i j l1 l2 hlt k (by rw [e1]; exact hk) (by rw [e2]; exact hk2)
 ·exact gG.1 h.apart j i l2 l1 hlt k (by rw [e2]; exact hk2) (by rw [e1]; exact hk)
theorem n9.mem {D rs:List db} {is:List Nat} (h:n9 D is rs):∀ r∈rs,r∈D:=fun r hr=>by
 obtain⟨i,_,hi⟩:=h.get r hr; exact a6 hi
theorem Na {d:Option Nat} {s t:TypeId} {x:Operand} {ty:TypeId} {k k' ks:IntKind} {p:Int} (hS:St W M T n G D F a w) (hx:ev G x=some (.int k p)) (hs:P.underlying s=some (.int ks)) (ht:P.underlying t=some (.int k')):Ye P ⟨d,.convert s t x,ty,pos,af,g⟩ a E w (.int k' (k'.wrap p)) :=
 Ye.of fun w=>by
  simp [execOp,hS.ev hx,convert,run_underlying hs,run_underlying ht,Conv.intToInt]
theorem Og {α:Type} {R:aY α} {xs ys:List α} {e t:TypeId} {v:Value} {lo hi:Int} {ag:Bool} (hS:St W M T n G D F a w) (ht:lm P t=some e) (he:n7 P e=some (ag,R.size)) (j:Nat) (hj:F[j]? = some (aR R v xs)) (hg:o0 xs lo hi=some ys) :
  ∃ v',(∀ {E:Nat→Prop} {d:Option Nat} {ty:TypeId} {X:Operand} {olo ohi:Option Operand} {pos:String} {af:Array Edge} {g:Option (Nat×Bool)} {k1 k2:IntKind},ev G X=some v→((∃ x,olo=some x∧ev G x=some (.int k1 lo))∨(olo=none∧lo=0))→((∃ x,ohi=some x∧ev G x=some (.int k2 hi))∨(ohi=none∧hi=xs.length))→Ye P ⟨d,.slice t X olo ohi none,ty,pos,af,g⟩ a E w v')∧St W M T n G D (aR R v' ys::F) a w:=by
 obtain⟨q1,q2,q3,rfl⟩:=rA hg;have hsl:aE R (dT T D) w v xs:=hS.get j hj;obtain⟨A,c,rfl,p1,p2⟩:=hsl.len;refine⟨.slice (if c=lo.toNat then A else A.map (·.add (lo.toNat*R.size))) (hi.toNat-lo.toNat) (c-lo.toNat),?_,hS.fact _ (hsl.cut (by omega) (by omega) _ (fun hlt b o hA=>?_))⟩
 ·intro E d ty X olo ohi pos af g k1 k2 hX hlo hhi;refine Ye.of fun w=>?_;have hb:=wM (P:=P) (isS:=true) (k1:=k1) (k2:=k2) q1 q2 q3 p1 w (olo.map a.eval) (ohi.map a.eval)
   (by
     rcases hlo with⟨x,rfl,hx⟩|⟨rfl,rfl⟩
     ·exact .inl (by rw [o7,hS.ev hx])
     ·exact .inr ⟨rfl,rfl⟩)
   (by
     rcases hhi with⟨x,rfl,hx⟩|⟨rfl,rfl⟩
     ·exact .inl (by rw [o7,hS.ev hx])
     ·exact .inr ⟨rfl,rfl⟩)
  simp [execOp,Instr.sliceAt,Instr.slice,run_underlying (rN ht),hS.ev hX,hb,qA he]
 ·rw [if_neg (by omega),hA];simp [lp]
theorem OQ {d:Option Nat} {x y:Operand} {tys:Array TypeId} {ty:TypeId} {k:IntKind} {p q:Int} (hS:St W M T n G D F a w) (hx:ev G x=some (.int k p)) (hy:ev G y=some (.int k q)):Ye P ⟨d,.call { callee:=.builtin .max,args:=#[x,y],argTypes:=tys },ty,pos,af,g⟩ a E w (.int k (max p q)) :=
 Ye.of fun w=>by
  have h:(if q>p then q else p)=max p q:=by rw [Int.max_def]; split <;> split <;> omega
  simp only [execOp,resolve,invoke,builtin,Sem.run_bind,Sem.run_pure,Result.andThen_ok,BZ,tE,yQ,hS.ev hx,hS.ev hy,Builtin.max_,List.foldlM_cons,List.foldlM_nil,Builtin.max2,h]
theorem I9 {d:Option Nat} {x y:Operand} {tys:Array TypeId} {ty:TypeId} {k:IntKind} {p q:Int} (hS:St W M T n G D F a w) (hx:ev G x=some (.int k p)) (hy:ev G y=some (.int k q)):Ye P ⟨d,.call { callee:=.builtin .min,args:=#[x,y],argTypes:=tys },ty,pos,af,g⟩ a E w (.int k (min p q)) :=
 Ye.of fun w=>by
  have h:(if q<p then q else p)=min p q:=by rw [Int.min_def]; split <;> split <;> omega
  simp only [execOp,resolve,invoke,builtin,Sem.run_bind,Sem.run_pure,Result.andThen_ok,BZ,tE,yQ,hS.ev hx,hS.ev hy,Builtin.min_,List.foldlM_cons,List.foldlM_nil,Builtin.min2,h]
theorem M9 {d:Option Nat} {op:BinOp} {t t':TypeId} {x y:Operand} {ty:TypeId} {k:IntKind} {p q:Int} (hS:St W M T n G D F a w)
  (hx:ev G x=some (.int k p)) (hy:ev G y=some (.int k q)) (hv:KP op=true):Ye P ⟨d,.binOp op t x y t',ty,pos,af,g⟩ a E w (.int k (Ci op k p q)) :=
 Ye.of fun w=>by
  have h1:=hS.ev hx;have h2:=hS.ev hy;cases op <;> simp only [KP,reduceCtorEq] at hv <;> simp [execOp,h1,h2,eqGuard,binOp,Op.intBits,Ci]
theorem CR {d:Option Nat} {op:BinOp} {t t':TypeId} {x y:Operand} {ty:TypeId} {p q:Bool} (hS:St W M T n G D F a w)
  (hx:ev G x=some (.bool p)) (hy:ev G y=some (.bool q)) (ht:P.underlying t=some .bool) {v:Bool} (hv:(op = .eql∧v=(p==q))∨(op = .neq∧v=(p != q))):Ye P ⟨d,.binOp op t x y t',ty,pos,af,g⟩ a E w (.bool v) :=
 Ye.of fun w=>by
  have h1:=hS.ev hx;have h2:=hS.ev hy;have h3:=run_equal_bool (P:=P) w t p q ht;rcases hv with⟨rfl,rfl⟩|⟨rfl,rfl⟩ <;> simp [execOp,h1,h2,eqGuard,binOp,h3];cases p <;> cases q <;> rfl
end
end
section
open Go.RowKit
variable {pos:String} {af:Array Edge} {g:Option (Nat×Bool)}
theorem Q5 {T:Nat→Prop} (w:World):Nw T (dT T []) w:=fun k hk=>.inl (by rcases hk with hk | ⟨r,hr,_⟩; exact hk; cases hr)
def KI (er:Value) (b:Bool):Prop:=(b=false∧er = .nilIface)∨(b=true∧∃ t v,er = .iface t v)
section
variable {P:Program} {W:World} {M T E:Nat→Prop} {n:Nat} {G G':List (Nat×Value)} {D D' rs:List db} {F F':List cA} {a:Act} {w w':World} {K:Act→World→Prop} {Q:Exit→Act→World→Prop}
theorem KC {d:Option Nat} {t t':TypeId} {x:Operand} {ty:TypeId} {er:Value} {b:Bool} (hS:St W M T n G D F a w)
  (hx:ev G x=some er) (he:KI er b) (ht:P.underlying t=some (.interface (P.methodsAt t))):Ye P ⟨d,.binOp .neq t x (.const .nilIface) t',ty,pos,af,g⟩ a E w (.bool b) :=
 Ye.of fun w=>by
  have h1:=hS.ev hx;have hc:a.eval (.const .nilIface) = .nilIface:=rfl;rcases he with⟨rfl,rfl⟩|⟨rfl,tt,vv,rfl⟩
  ·have h3:=run_equal_nil_nil (P:=P) w t ht;simp only [execOp,h1,hc,eqGuard,binOp];simp [h3]
  ·have h3:=run_equal_held_nil (P:=P) w t tt vv ht;simp only [execOp,h1,hc,eqGuard,binOp];simp [h3]
theorem CT {α:Type} {R:aY α} {xs:List α} {v:Value} {t e:TypeId} (hS:St W M T n G D F a w) (ht:lm P t=some e) (i:Nat) (hi:F[i]? = some (aR R v xs)) :
  ∃ b:Bool,(b=true→xs=[])∧(∀ {E:Nat→Prop} {d:Option Nat} {ty:TypeId} {x:Operand} {t':TypeId} {pos:String} {af:Array Edge} {g:Option (Nat×Bool)},ev G x=some v→Ye P ⟨d,.binOp .eql t x (.const (.slice none 0 0)) t',ty,pos,af,g⟩ a E w (.bool b))∧(∀ {E:Nat→Prop} {d:Option Nat} {ty:TypeId} {x:Operand} {t':TypeId} {pos:String} {af:Array Edge} {g:Option (Nat×Bool)},ev G x=some v→Ye P ⟨d,.binOp .neq t x (.const (.slice none 0 0)) t',ty,pos,af,g⟩ a E w (.bool !b)):=by
 obtain⟨A,c,rfl,h1,h2,h3⟩:aE R (dT T D) w v xs:=hS.get i hi;refine⟨A.isNone,fun hb=>?_,fun {E d ty x t' pos af g} hx=>Ye.of fun w=>?_,fun {E d ty x t' pos af g} hx=>Ye.of fun w=>?_⟩
 ·rcases h3 with h3 | ⟨b,off,rfl,_⟩
  ·exact h3
  ·cases hb
 ·have h4:=hS.ev hx;have hc:a.eval (.const (.slice none 0 0)) = .slice none 0 0:=rfl;have h5:=run_equal_slice_nil (P:=P) w t e A xs.length c (rN ht);simp only [execOp,h4,hc,eqGuard,binOp];simp [h5]
 ·have h4:=hS.ev hx;have hc:a.eval (.const (.slice none 0 0)) = .slice none 0 0:=rfl;have h5:=run_equal_slice_nil (P:=P) w t e A xs.length c (rN ht);simp only [execOp,h4,hc,eqGuard,binOp];simp [h5]
theorem xZ {α:Type} (R:aY α) {d:Nat} {t e ty:TypeId} {bt:Nat} (hS:St W M T n G D F a w) (he:zJ P t=some (e,R.size,bt)) (hn:Nat.blt d n=true)
  (k:∀ v' a w',Kt No w w'→St W M T n ((d,v')::G) (.own v' e R.size []::D) (an R [] []::F) a w'→K a w'):qT P ⟨some d,.buildSlice t 0 #[],ty,pos,af,g⟩ a w K:=by
 obtain⟨ht,⟨i,z,hi,hz0,hsz,hby,hzc⟩,hpos⟩:=tP he;have hr:(execOp a.eval ⟨some d,.buildSlice t 0 #[],ty,pos,af,g⟩).run P w = .ok (.value (.slice (some ⟨w.heap.size,0,none⟩) 0 0)) (w.alloc (.cells #[] e)):=by
  simp [execOp,Instr.buildSlice,run_underlying ht,sizeOf,typeInfo,hi,Instr.fill,newRow,Array.range_zero']
 have hown:rj (w.alloc (.cells #[] e)) 0 e R.size (.slice (some ⟨w.heap.size,0,none⟩) 0 0) []:=rj.made w 0 e R.size #[] 0 (cR _) (by simp) (cR _);have h2:=hS.fact (an R [] []) (aA.nil_ _ _ _);exact ux hr (k _ _ _ (Kt.alloc _ _) ((h2.add (Kt.alloc _ _) (.own (.slice (some ⟨w.heap.size,0,none⟩) 0 0) e R.size []) ⟨hown,hpos⟩ (fun j hj=>by simp only [db.dom,Value.ownBlock,fg] at hj; omega)).put hn _))
def Jf (v:Value) (b o sz:Nat) (i:Int) (p:Nat):Prop:=∃ off m c,v = .slice (some ⟨b,off,none⟩) m c∧o=off+i.toNat*sz∧p=i.toNat*sz
theorem xe {v:Value} {b o sz p e:Nat} {i:Int} {sz2:Nat} {cl:bv} (h:Jf v b o sz i p):(db.own v e sz2 cl).dom b:=by obtain⟨off,m,c,rfl,_,_⟩:=h; rfl
theorem CA {α:Type} {R:aY α} {v:Value} {e:TypeId} {cl:bv} {xs:List α} {i:Int} {x:α} (hS:St W M T n G D F a w) (q:Nat) (hq:D[q]? = some (.own v e R.size cl)) (j:Nat) (hj:F[j]? = some (an R cl xs)) (hg:bu xs i=some x) :
  ∃ b off c,v = .slice (some ⟨b,off,none⟩) xs.length c∧∃ cs,R.rel (dT T D) w cs x∧(∀ k u,cs[k]? = some u→cl[i.toNat*R.size+k]? = some u):=by
 obtain⟨q1,q2,q3⟩:=gK hg;obtain⟨hown,hsz⟩:=hS.own _ (a6 hq);have hrow:aA R (dT T D) w cl xs:=hS.get j hj;obtain⟨cs,h1,h2⟩:=hrow.2 _ _ q3;rcases hown with⟨rfl,rfl⟩|⟨gb,off,m,cap,row,rfl,p1,p2,p3,p4,p5,p6,p7⟩
 ·have h0:xs.length*R.size=0:=hrow.1.symm;rcases Ei.1 h0 with h | h <;> omega
 ·have hm:m=xs.length:=AO hsz (p1.symm.trans hrow.1);subst hm;exact⟨gb,off,cap,rfl,cs,h1,h2⟩
theorem dj {α:Type} {R:aY α} {xs:List α} {x:α} {d:Nat} {t e e' ty:TypeId} {X Y:Operand} {v:Value} {cl:bv} {k:IntKind} {i:Int} {ag:Bool} (hS:St W M T n G D F a w) (ht:lm P t=some e) (he:n7 P e=some (ag,R.size)) (hX:ev G X=some v) (hY:ev G Y=some (.int k i)) (q:Nat) (hq:D[q]? = some (.own v e' R.size cl)) (j:Nat) (hj:F[j]? = some (an R cl xs)) (hg:bu xs i=some x) (hn:Nat.blt d n=true)
  (K':∀ b o p cs,R.rel (dT T D) w cs x→Jf v b o R.size i p→(∀ k u,cs[k]? = some u→cl[p+k]? = some u)→∀ a,St W M T n ((d,.pointer (some ⟨b,o,none⟩))::G) D F a w→K a w):qT P ⟨some d,.indexAddr t X Y,ty,pos,af,g⟩ a w K:=by
 obtain⟨b,off,c,rfl,cs,h1,h2⟩:=CA hS q hq j hj hg;obtain⟨q1,q2,_⟩:=gK hg;have hr:(execOp a.eval ⟨some d,.indexAddr t X Y,ty,pos,af,g⟩).run P w = .ok (.value (.pointer (some ⟨b,off+i.toNat*R.size,none⟩))) w:=by simp [execOp,hS.ev hX,hS.ev hY,qz ht he q1 q2]
 exact ux hr (K' b _ _ cs h1 ⟨off,_,_,rfl,rfl,rfl⟩ h2 _ (hS.put hn _))
theorem mD {α:Type} {R:aY α} {xs:List α} {x:α} {t e e':TypeId} {v:Value} {cl:bv} {i:Int} {ag:Bool} (hS:St W M T n G D F a w) (ht:lm P t=some e) (he:n7 P e=some (ag,R.size)) (q:Nat) (hq:D[q]? = some (.own v e' R.size cl)) (j:Nat) (hj:F[j]? = some (an R cl xs)) (hg:bu xs i=some x) :
  ∃ b o p cs,R.rel (dT T D) w cs x∧Jf v b o R.size i p∧(∀ k u,cs[k]? = some u→cl[p+k]? = some u)∧(∀ {E:Nat→Prop} {d:Option Nat} {ty:TypeId} {X Y:Operand} {pos:String} {af:Array Edge} {g:Option (Nat×Bool)} {k:IntKind},ev G X=some v→ev G Y=some (.int k i)→Ye P ⟨d,.indexAddr t X Y,ty,pos,af,g⟩ a E w (.pointer (some ⟨b,o,none⟩))):=by
 obtain⟨b,off,c,rfl,cs,h1,h2⟩:=CA hS q hq j hj hg;obtain⟨q1,q2,_⟩:=gK hg;exact⟨b,_,_,cs,h1,⟨off,_,_,rfl,rfl,rfl⟩,h2,fun hX hY=>Ye.of fun w=>by simp [execOp,hS.ev hX,hS.ev hY,qz ht he q1 q2]⟩
theorem ce {d:Option Nat} {t ty e:TypeId} {x:Operand} {ag:Bool} {z b o k p sz:Nat} {v:Value} {cl cs us:bv} {i:Int} (hS:St W M T n G D F a w) (ht:n7 P t=some (ag,z)) (q:Nat) (hq:D[q]? = some (.own v e sz cl)) (ho:Jf v b o sz i p) (hc:∀ k u,cs[k]? = some u→cl[p+k]? = some u) (hx:ev G x=some (.pointer (some ⟨b,o+k,none⟩))) (hE:¬ E b)
  (hu:(cs.drop k).take z=us) (hl:us.length=z) (hz:ag=false→z=1):Ye P ⟨d,.load t x,ty,pos,af,g⟩ a E w (bp ag us):=fun w' hk=>by
 obtain⟨hown,hsz⟩:=hS.own _ (a6 hq);obtain⟨off,m,c,rfl,rfl,rfl⟩:=ho;rcases hown with⟨h,_⟩|⟨gb,off',m',cap,row,h,p1,p2,p3,p4,p5,p6,p7⟩
 ·cases h
 ·injection h with h1 h2 h3;injection h1 with h1;injection h1 with h1 h4;subst h1 h4;have hr':=p3.eqb (hk.block b p3.lt hE);have:=wN (P:=P) (b:=b) (o:=off+i.toNat*sz+k) ht hl hz w' (fun j u hj=>by
   rw [hr'.cell];rw [← hu,qV] at hj;split at hj
   ·rw [sj] at hj;have:=p7 _ u (hc _ u hj);rwa [show off+(i.toNat*sz+(k+j))=off+i.toNat*sz+k+j by omega] at this
   ·cases hj)
  simp [execOp,hS.ev hx,this]
theorem yZ {t:TypeId} {ag:Bool} {z:Nat} (ht:n7 P t=some (ag,z)) {b o:Nat} {row:Array Value} {e:TypeId} {v:Value} (hr:AX w b row e) (hz:v.cells.toList.length=z) (hl:o+z≤row.size) (h1:∀ u∈v.cells.toList,u.oneCell'=true) :
  ∃ row':Array Value,(Instr.storeAt t (.pointer (some ⟨b,o,none⟩)) v).run P w = .ok () (w.setCells b o v.cells.toList)∧AX (w.setCells b o v.cells.toList) b row' e∧row'.size=row.size∧∀ y,row'[y]? = if o≤y∧y<o+z then v.cells.toList[y-o]? else row[y]?:=by
 have h2:=run_storeCells_cells (P:=P) b o v.cells.toList 0 w (fun j hj=>by rw [sh,hr.cell,n3 (by omega)]; rfl) (fun j hj=>by rw [sh]; exact hr.free (by omega)) h1;simp only [sh] at h2;have h3:v.cells.size=z:=by rw [← hz]; simp
 obtain⟨fz,hg0,hfz⟩:=id hr;obtain⟨row',c1,c2,c3,c4⟩:=eb b e fz v.cells.toList o w row hg0;refine⟨row',by simp [Instr.storeAt,Instr.sureAddr,storeVar,qA ht,h3,h2],⟨fz,c1,by rw [c2]; exact hfz⟩,c2,fun y=>?_⟩;by_cases hy:o≤y∧y<o+z
 ·rw [if_pos hy];have hj:y-o<v.cells.toList.length:=by omega
  have:=c4 (by omega) (y-o) _ (bS hj);rw [show o+(y-o)=y by omega] at this;rw [this,bS hj]
 ·rw [if_neg hy];exact c3 y (by omega)
theorem xz (cs us:bv) (o j:Nat) (hl:o+us.length≤cs.length):(mZ cs o us)[j]? = if o≤j∧j<o+us.length then us[j-o]? else cs[j]?:=by
 unfold mZ;rw [AU,List.getElem?_append,fe,Nat.min_eq_left (by omega)];by_cases h1:j<o
 ·rw [if_pos h1,qV,if_pos h1,if_neg (by omega)]
 ·rw [if_neg h1,List.getElem?_append];by_cases h2:j<o+us.length
  ·rw [if_pos (by omega),if_pos ⟨by omega,h2⟩]
  ·rw [if_neg (by omega),if_neg (by omega),sj];congr 1; omega
theorem qe {α:Type} {R:aY α} {xs:List α} {x x':α} {t ty e:TypeId} {X Y:Operand} {ag:Bool} {z b o k p:Nat} {v u:Value} {cl cs us:bv} {i:Int} (hS:St W M T n G D F a w) (hX:ev G X=some (.pointer (some ⟨b,o+k,none⟩))) (hY:ev G Y=some u) (hu:u.cells.toList=us) (ht:n7 P t=some (ag,z)) (q:Nat) (hq:D[q]? = some (.own v e R.size cl)) (j:Nat) (hj:F[j]? = some (an R cl xs)) (ho:Jf v b o R.size i p) (hc:∀ k u,cs[k]? = some u→cl[p+k]? = some u) (hg:bu xs i=some x) (hrel:R.rel (dT T D) w cs x)
  (hz:us.length=z) (hl:Nat.ble (k+z) cs.length=true) (hnew:R.rel (dT T D) w (mZ cs k us) x')
  (K':∀ cl' w',Kt (fun j=>v.ownBlock=some j) w w'→St W M T n G (D.set q (.own v e R.size cl')) (an R cl' (xs.set i.toNat x')::F) a w'→K a w'):qT P ⟨none,.store t X Y,ty,pos,af,g⟩ a w K:=by
 have hmem:=a6 hq;obtain⟨hown,hsz⟩:=hS.own _ hmem;have hrow:aA R (dT T D) w cl xs:=hS.get j hj;obtain⟨q1,q2,q3⟩:=gK hg;have hle:=o4 hl;have hcl:=R.len hrel;obtain⟨off,m,c,rfl,rfl,rfl⟩:=ho;rcases hown with⟨h,_⟩|⟨gb,off',m',cap,row,h,p1,p2,p3,p4,p5,p6,p7⟩
 ·cases h
 ·injection h with h1 h2 h3;injection h1 with h1;injection h1 with h1 h4;subst h1 h4 h2 h3;have hm:m=xs.length:=AO hsz (p1.symm.trans hrow.1);subst hm;have hlt:i.toNat<xs.length:=(bN.1 q3).1;have hin:i.toNat*R.size+R.size≤xs.length*R.size:=by
   have:(i.toNat+1)*R.size≤xs.length*R.size:=kQ _ hlt;rw [kf] at this; omega
  have hcap:xs.length*R.size≤c*R.size:=kQ _ p4;have hone:∀ y∈us,y.oneCell'=true:=by
   intro y hy;refine R.one hnew y ?_;unfold mZ;exact qC _ (wh _ hy)
  subst hu;have hz2:u.cells.size=z:=by rw [← hz]; simp
  obtain⟨row',hst,hrow',hsz',hget⟩:=yZ (P:=P) (o:=off+i.toNat*R.size+k) ht p3 hz (by omega) hone;have hk:Kt (fun j=>(Value.slice (some ⟨b,off,none⟩) xs.length c).ownBlock=some j) w (w.setCells b (off+i.toNat*R.size+k) u.cells.toList):=(Kt.setCells _ _ _ _).mono fun j h=>by rw [h]; rfl
  have hclen:=hrow.1;have hown':rj (w.setCells b (off+i.toNat*R.size+k) u.cells.toList) 0 e R.size (.slice (some ⟨b,off,none⟩) xs.length c) (mZ cl (i.toNat*R.size+k) u.cells.toList):=by
   refine .inr ⟨b,off,xs.length,c,row',rfl,?_,cR _,hrow',p4,p5,by rw [hsz']; exact p6,fun y v hv=>?_⟩
   ·unfold mZ; simp only [cS,fe,sm]; omega
   ·rw [xz _ _ _ _ (by omega)] at hv;rw [hget];by_cases hy:i.toNat*R.size+k≤y∧y<i.toNat*R.size+k+u.cells.toList.length
    ·rw [if_pos hy] at hv;rw [if_pos (by omega)];rw [show off+y-(off+i.toNat*R.size+k)=y-(i.toNat*R.size+k) by omega]; exact hv
    ·rw [if_neg hy] at hv;rw [if_neg (by omega)];exact p7 y v hv
  have hrows:aA R (dT T D) w (mZ cl (i.toNat*R.size+k) u.cells.toList) (xs.set i.toNat x'):=by
   refine⟨by unfold mZ; simp only [cS,fe,sm,Ef]; omega,fun y z' hz'=>?_⟩;rw [we] at hz';by_cases hy:i.toNat=y
   ·rw [if_pos hy,if_pos hlt] at hz';simp only [fg] at hz';subst hz' hy;refine⟨_,hnew,fun s v hv=>?_⟩;rw [xz _ _ _ _ (by omega)] at hv ⊢;by_cases hs:k≤s∧s<k+u.cells.toList.length
    ·rw [if_pos hs] at hv;rw [if_pos (by omega),show i.toNat*R.size+s-(i.toNat*R.size+k)=s-k by omega]; exact hv
    ·rw [if_neg hs] at hv;rw [if_neg (by omega)];exact hc s v hv
   ·rw [if_neg hy] at hz';obtain⟨ds,d1,d2⟩:=hrow.2 y z' hz';refine⟨ds,d1,fun s v hv=>?_⟩;have hsl:s<R.size:=by rw [← R.len d1]; exact (bN.1 hv).1
    rw [xz _ _ _ _ (by omega),if_neg]
    ·exact d2 s v hv
    ·rintro⟨r1,r2⟩;rcases AQ hy with hlt2 | hlt2
     ·have:(i.toNat+1)*R.size≤y*R.size:=kQ _ hlt2;rw [kf] at this; omega
     ·have:(y+1)*R.size≤i.toNat*R.size:=kQ _ hlt2;rw [kf] at this; omega
  have hS2:=hS.fact (an R (mZ cl (i.toNat*R.size+k) u.cells.toList) (xs.set i.toNat x')) hrows;refine DA (by simp [execOp,hS.ev hX,hS.ev hY,hst]) (K' (mZ cl (i.toNat*R.size+k) u.cells.toList) _ hk ?_);exact hS2.turn hq hk (r':=.own (.slice (some ⟨b,off,none⟩) xs.length c) e R.size (mZ cl (i.toNat*R.size+k) u.cells.toList)) ⟨hown',hsz⟩ (fun j hj=>.inl hj)
theorem qb {T:Nat→Prop} {D:List db} {i:Nat} {r:db} (hi:D[i]? = some r):∀ k,dT (dT T (D.eraseIdx i)) [r] k↔dT T D k:=by
 intro k;constructor
 ·rintro ((hk | ⟨s,hs,hk⟩) | ⟨s,hs,hk⟩)
  ·exact .inl hk
  ·exact .inr ⟨s,Jb hs,hk⟩
  ·rw [eG] at hs; subst hs; exact .inr ⟨s,a6 hi,hk⟩
 ·rintro (hk | ⟨s,hs,hk⟩)
  ·exact .inl (.inl hk)
  ·obtain⟨j,hj,e⟩:=F4 hs;by_cases hji:j=i
   ·subst hji;have:s=r:=by rw [← e]; exact (bN.1 hi).2
    subst this; exact .inr ⟨_,eG.2 rfl,hk⟩
   ·refine .inl (.inr ⟨s,?_,hk⟩);rw [kg];rcases AQ hji with h | h
    ·exact⟨j,by rw [AR,if_pos h,← e]; exact bS hj⟩
    ·exact⟨j-1,by rw [AR,if_neg (by omega),show j-1+1=j by omega,← e]; exact bS hj⟩
theorem St.notin {b:Nat} {cs:bv} {t:TypeId} (h:St W M T n G D F a w) (i:Nat) (hi:D[i]? = some (.box b cs t)):¬ dT T (D.eraseIdx i) b:=by
 rintro (hk | ⟨s,hs,hk⟩)
 ·exact (h.free _ (a6 hi) b rfl).1 hk
 ·obtain⟨l1,e1⟩:=bN.1 hi;obtain⟨z,hz⟩:=kg.1 hs;rw [AR] at hz;split at hz
  ·rename_i hzi;have hzl:=(bN.1 hz).1;have:=gG.1 h.apart z i hzl l1 hzi b (by rw [(bN.1 hz).2]; exact hk);rw [e1] at this; exact this rfl
  ·have hzl:=(bN.1 hz).1;have:=gG.1 h.apart i (z+1) l1 hzl (by omega) b (by rw [e1]; rfl);rw [(bN.1 hz).2] at this; exact this hk
theorem aE.lent {α:Type} {R:aY α} {v:Value} {xs:List α} {i:Nat} {r:db} (hi:D[i]? = some r) (h:aE R (dT T D) w v xs):aE R (dT (dT T (D.eraseIdx i)) [r]) w v xs :=
 h.sub fun k hk=>.inl ((qb hi k).1 hk)
theorem aE.back {α:Type} {R:aY α} {v:Value} {xs:List α} {i:Nat} {r r':db} (hi:D[i]? = some r) (h:aE R (dT (dT T (D.eraseIdx i)) [r']) w v xs):aE R (dT T (D.set i r')) w v xs:=by
 refine h.sub fun k hk=>.inl ?_;have hl:=(bN.1 hi).1;have:=(qb (T:=T) (D:=D.set i r') (i:=i) (r:=r') (by rw [B0 hl]) k).2 hk;rwa [List.eraseIdx_set_eq] at this
theorem St.boxRow {b:Nat} {cs:bv} {t:TypeId} (h:St W M T n G D F a w) (i:Nat) (hi:D[i]? = some (.box b cs t)):w.heap[b]? = some (.cells cs.toArray t (0,0)):=h.own _ (a6 hi)
theorem St.boxNew {b:Nat} {cs:bv} {t:TypeId} (h:St W No T n G D F a w) (i:Nat) (hi:D[i]? = some (.box b cs t)):W.heap.size≤b:=(h.free _ (a6 hi) b rfl).2.resolve_left fun h=>h
end
theorem sK {P:Program} {f:FuncId} {fn:Func} {c:Code} {args:bv} {w:World} {R:Value→World→Prop} (hf:P.funcs[f]? = some fn) (hb:fn.body=some c)
  (T:Nat→Prop) (n:Nat) (hn:fn.ntmps=n) (hT:∀ k,T k→k<w.heap.size) (hl:Nat.ble args.length n=true) {b:Nat} {cs:bv} {t:TypeId} (hrow:w.heap[b]? = some (.cells cs.toArray t (0,0))) (hTb:¬ T b)
  (h:∀ a,St w (fun k=>k=b) T n (mz 0 args) [.box b cs t] [] a w→c.wp P (bodyPost P fn (Np (fun k=>k=b) w R)) a w):bj P (fun k=>k=b) f args w R:=by
 refine calls_of_wp hf hb (h _ ?_);subst hn;have hS:=St.start w (fun k=>k=b) T fn.ntmps args hT (o4 hl) (mz 0 args) fun t v hv=>by
  obtain⟨h1,h2⟩:=y9 args 0 t v hv;simpa using h2
 exact⟨hS.size,hS.defers,hS.slots,hS.base,fun r hr=>by rw [eG] at hr; subst hr; exact hrow,fun r hr k hk=>by
  rw [eG] at hr; subst hr;simp only [db.dom,fg] at hk;subst hk; exact⟨hTb,.inl rfl⟩,BY _ _,fun f hf=>(by cases hf),hT⟩
section
variable {P:Program} {W:World} {M T:Nat→Prop} {n:Nat} {G:List (Nat×Value)} {D:List db} {F:List cA} {a:Act} {w:World} {K:Act→World→Prop}
theorem St.retOwnm {α:Type} {R:aY α} {v:Value} {e b:Nat} {bt:TypeId} {cs:bv} {cl:bv} {xs:List α} {rs:List db} (h:St W (fun k=>k=b) T n G D F a w) (hi:KJ D rs) (i:Nat) (hd:D[i]? = some (.own v e R.size cl)) (j:Nat) (hj:F[j]? = some (an R cl xs)) (q:Nat) (hq:D[q]? = some (.box b cs bt)) (hne:i≠q):gg R T W w rs e v cl xs:=by
 have hm:=a6 hd;refine⟨(h.own _ hm).1,fun k hk=>(h.free _ hm k hk).2.resolve_left fun h2=>?_,(h.get j hj:aA R (dT T D) w cl xs).keep (au _ _) fun k hk=>.inl (hi.sub k hk)⟩;exact jZ (l:=[]) h i hd hk q hq rfl hne bP ⟨.blk (some b),eG.2 rfl,congrArg some h2.symm⟩
theorem St.turnAdds {w':World} (h:St W M T n G D F a w) {i:Nat} {r r':db} (hi:D[i]? = some r) (k:Kt (fun j=>r.dom j) w w') (hr:r'.ok w') (hd:∀ j,r'.dom j→r.dom j)
  (rs:List db) (h1:∀ r∈rs,r.ok w'∧∀ k,r.dom k→w.heap.size≤k) (h2:rs.Pairwise fun r s=>∀ k,r.dom k→¬ s.dom k):St W M T n G (rs++D.set i r') F a w':=by
 have hb:=h.turn hi k hr (fun j hj=>.inl (hd j hj));have hlt:∀ s∈D.set i r',∀ j,s.dom j→j<w.heap.size∧(dT T D) j:=fun s hs j hj=>by
  rcases List.mem_or_eq_of_mem_set hs with hs | rfl
  ·exact⟨db.lt (h.own s hs) j hj,.inr ⟨s,hs,hj⟩⟩
  ·exact⟨db.lt (h.own r (a6 hi)) j (hd j hj),.inr ⟨r,a6 hi,hd j hj⟩⟩
 refine⟨hb.size,hb.defers,hb.slots,hb.base,?_,?_,?_,fun f hf=>f.keep (h.facts f hf) (k.mono fun j hj=>.inr ⟨r,a6 hi,hj⟩) (fun j hj=>?_),hb.tlt⟩
 ·intro s hs;rcases dz.1 hs with hs | hs
  ·exact (h1 s hs).1
  ·exact hb.own s hs
 ·intro s hs j hj;rcases dz.1 hs with hs | hs
  ·have:=(h1 s hs).2 j hj;refine⟨fun ht=>?_,.inr ?_⟩
   ·have:=h.tlt j ht; omega
   ·have:=h.base.size; omega
  ·exact hb.free s hs j hj
 ·refine xJ.2 ⟨h2,hb.apart,fun s hs u hu j hj hj2=>?_⟩;have:=(h1 s hs).2 j hj;have:=(hlt u hu j hj2).1;omega
 ·rcases hj with hj | ⟨s,hs,hj⟩
  ·exact .inl (.inl hj)
  ·rcases dz.1 hs with hs | hs
   ·exact .inr ((h1 s hs).2 j hj)
   ·exact .inl (hlt s hs j hj).2
theorem Nw.back2 {i:Nat} {r r':db} (hi:D[i]? = some r) (rs:List db) (w:World):Nw (dT (dT T (D.eraseIdx i)) (rs++[r'])) (dT T (rs++D.set i r')) w:=fun k hk=>.inl (by
 rcases hk with hk | ⟨s,hs,hk⟩
 ·exact .inl (.inl hk)
 ·rcases dz.1 hs with hs | hs
  ·exact .inr ⟨s,dz.2 (.inl hs),hk⟩
  ·have hl:=(bN.1 hi).1;have:=(qb (T:=T) (D:=D.set i r') (i:=i) (r:=r') (by rw [B0 hl]) k).2 (.inr ⟨s,hs,hk⟩);rw [List.eraseIdx_set_eq] at this;rcases this with this | ⟨u,hu,hk⟩
   ·exact .inl this
   ·exact .inr ⟨u,dz.2 (.inr hu),hk⟩)
theorem mG {d:Nat} {ty:TypeId} {args:Array Operand} {tys:Array TypeId} {f:Nat} {vs:bv} {R:Value→World→Prop} {b:Nat} {cs:bv} {bt:TypeId} (hS:St W M T n G D F a w) (hf:aT P f=true) (hargs:evs G args.toList=some vs) (hn:Nat.blt d n=true) (i:Nat) (hi:D[i]? = some (.box b cs bt)) (hc:bj P (fun k=>k=b) f vs w R)
  (k:∀ v w',R v w'→Kt (fun k=>k=b) w w'→∃ cs' rs,w'.heap[b]? = some (.cells cs'.toArray bt (0,0))∧(∀ r∈rs,r.ok w'∧∀ k,r.dom k→w.heap.size≤k)∧(rs.Pairwise fun r s=>∀ k,r.dom k→¬ s.dom k)∧∀ a,St W M T n ((d,v)::G) (rs++D.set i (.box b cs' bt)) F a w'→K a w'):qT P ⟨some d,.call { callee:=.value (.func f),args:=args,argTypes:=tys },ty,pos,af,g⟩ a w K :=
 w7 (cap:=[]) rfl hS rfl hf hargs (by rw [uo]; exact hc) fun v w' hk hr=>by
  obtain⟨cs',rs,h1,h2,h3,h4⟩:=k v w' hr hk;exact h4 _ ((hS.turnAdds hi (hk.mono fun j hj=>by simp [db.dom,hj]) (r':=.box b cs' bt) h1 (fun j hj=>hj) rs h2 h3).put hn v)
theorem aA.cut {α:Type} {R:aY α} {T:Nat→Prop} {w:World} {cl:bv} {xs:List α} (h:aA R T w cl xs) {l q:Nat} (h1:l≤q) (h2:q≤xs.length):aA R T w ((cl.take (q*R.size)).drop (l*R.size)) ((xs.take q).drop l):=by
 obtain⟨a1,a2⟩:=h;have hq:q*R.size≤xs.length*R.size:=kQ _ h2;refine⟨by simp only [sm,fe,a1]; rw [Nat.min_eq_left hq,Nat.min_eq_left h2,Nat.sub_mul],fun k x hx=>?_⟩;rw [sj,qV] at hx;split at hx
 ·rename_i hlt;obtain⟨cs,g1,g2⟩:=a2 _ x hx;refine⟨cs,g1,fun j u hu=>?_⟩;have hj:j<R.size:=by rw [← R.len g1]; exact (bN.1 hu).1
  have:=g2 j u hu;rw [sj,qV,if_pos]
  ·rwa [show l*R.size+(k*R.size+j)=(l+k)*R.size+j by rw [kf]; omega]
  ·have:(l+k+1)*R.size≤q*R.size:=kQ _ (by omega);rw [kf,kf] at this;omega
 ·cases hx
theorem Kv {α:Type} {R:aY α} {xs:List α} {e:TypeId} {v:Value} {cl:bv} {lo hi:Nat} (hS:St W M T n G D F a w) (q:Nat) (hq:D[q]? = some (.own v e R.size cl)) (j:Nat) (hj:F[j]? = some (an R cl xs)) (h1:lo≤hi) (h2:hi≤xs.length) :
  ∃ A c,v = .slice A xs.length c∧xs.length≤c∧c≤maxLen∧St W M T n G (D.set q (.own (.slice (if c=lo then A else A.map (·.add (lo*R.size))) (hi-lo) (c-lo)) e R.size ((cl.take (hi*R.size)).drop (lo*R.size)))) (an R ((cl.take (hi*R.size)).drop (lo*R.size)) ((xs.take hi).drop lo)::F) a w:=by
 obtain⟨hown,hsz⟩:=hS.own _ (a6 hq);have hrow:aA R (dT T D) w cl xs:=hS.get j hj;have hcut:=hrow.cut h1 h2;rcases hown with⟨rfl,rfl⟩|⟨gb,off,m,cap,row,rfl,p1,p2,p3,p4,p5,p6,p7⟩
 ·have h0:xs.length=0:=by
   have:=hrow.1.symm;rcases Ei.1 this with h | h
   ·exact h
   ·omega
  have e1:lo=0:=by omega
  have e2:hi=0:=by omega
  subst e1 e2;refine⟨none,0,by rw [h0],by omega,cR _,?_⟩;have hs:=(hS.fact (an R _ _) hcut).turn hq (w':=w) (au _ _) (r':=.own (.slice none 0 0) e R.size []) ⟨.inl ⟨rfl,rfl⟩,hsz⟩ (fun k hk=>.inl hk);simpa using hs
 ·have hm:m=xs.length:=AO hsz (p1.symm.trans hrow.1);subst hm;refine⟨some ⟨gb,off,none⟩,cap,rfl,p4,p5,?_⟩;refine (hS.fact (an R _ _) hcut).turn hq (w':=w) (au _ _) ⟨?_,hsz⟩ (fun k hk=>.inl ?_)
  ·have hA:(if cap=lo then (some ⟨gb,off,none⟩:Option Addr) else (some (⟨gb,off,none⟩:Addr)).map (·.add (lo*R.size)))=some ⟨gb,if cap=lo then off else off+lo*R.size,none⟩:=by
    split <;> simp [lp]
   rw [hA];refine .inr ⟨gb,_,_,_,row,rfl,?_,p2,p3,by omega,by omega,?_,?_⟩
   ·have hq2:hi*R.size≤xs.length*R.size:=kQ _ h2;simp only [sm,fe,p1]; rw [Nat.min_eq_left hq2,Nat.sub_mul]
   ·split
    ·rename_i hc; rw [hc,B2]; omega
    ·have hle:lo*R.size≤cap*R.size:=kQ _ (by omega);rw [Nat.sub_mul]; omega
   ·intro k u hu;rw [sj,qV] at hu;split at hu
    ·rename_i hlt;have hne:¬ cap=lo:=fun hc=>by
      have:hi=lo:=by omega
      subst this; omega
     rw [if_neg hne];have:=p7 _ u hu;rwa [show off+(lo*R.size+k)=off+lo*R.size+k by omega] at this
    ·cases hu
  ·revert hk;simp only [db.dom];split <;> simp [Value.ownBlock,lp]
theorem KF {v:Value} {t e:TypeId} {A:Option Addr} {m c sz:Nat} {lo hi:Int} {ag:Bool} (hS:St W M T n G D F a w) (ht:lm P t=some e) (he:n7 P e=some (ag,sz)) (q1:0≤lo) (q2:lo≤hi) (q3:hi≤m) (p1:m≤c) (hv:v = .slice A m c) {E:Nat→Prop} {d:Option Nat} {ty:TypeId} {X:Operand} {olo ohi:Option Operand} {k1 k2:IntKind} (hX:ev G X=some v) (hlo:(∃ x,olo=some x∧ev G x=some (.int k1 lo))∨(olo=none∧lo=0)) (hhi:(∃ x,ohi=some x∧ev G x=some (.int k2 hi))∨(ohi=none∧hi=m)) :
  Ye P ⟨d,.slice t X olo ohi none,ty,pos,af,g⟩ a E w (.slice (if c=lo.toNat then A else A.map (·.add (lo.toNat*sz))) (hi.toNat-lo.toNat) (c-lo.toNat)):=by
 subst hv;refine Ye.of fun w=>?_;have hb:=wM (P:=P) (isS:=true) (k1:=k1) (k2:=k2) q1 q2 q3 p1 w (olo.map a.eval) (ohi.map a.eval)
  (by
    rcases hlo with⟨x,rfl,hx⟩|⟨rfl,rfl⟩
    ·exact .inl (by rw [o7,hS.ev hx])
    ·exact .inr ⟨rfl,rfl⟩)
  (by
    rcases hhi with⟨x,rfl,hx⟩|⟨rfl,rfl⟩
    ·exact .inl (by rw [o7,hS.ev hx])
    ·exact .inr ⟨rfl,rfl⟩)
 simp [execOp,Instr.sliceAt,Instr.slice,run_underlying (rN ht),hS.ev hX,hb,qA he]
theorem L4 {α:Type} {R:aY α} {xs ys:List α} {e e' t:TypeId} {v:Value} {cl:bv} {lo hi:Int} {ag:Bool} (hS:St W M T n G D F a w) (ht:lm P t=some e) (he:n7 P e=some (ag,R.size)) (q:Nat) (hq:D[q]? = some (.own v e' R.size cl)) (j:Nat) (hj:F[j]? = some (an R cl xs)) (hg:o0 xs lo hi=some ys) :
  ∃ v' cl',(∀ {E:Nat→Prop} {d:Option Nat} {ty:TypeId} {X:Operand} {olo ohi:Option Operand} {pos:String} {af:Array Edge} {g:Option (Nat×Bool)} {k1 k2:IntKind},ev G X=some v→((∃ x,olo=some x∧ev G x=some (.int k1 lo))∨(olo=none∧lo=0))→((∃ x,ohi=some x∧ev G x=some (.int k2 hi))∨(ohi=none∧hi=xs.length))→Ye P ⟨d,.slice t X olo ohi none,ty,pos,af,g⟩ a E w v')∧St W M T n G (D.set q (.own v' e' R.size cl')) (an R cl' ys::F) a w:=by
 obtain⟨q1,q2,q3,rfl⟩:=rA hg;obtain⟨A,c,hv,h1,h2,hS'⟩:=Kv (lo:=lo.toNat) (hi:=hi.toNat) hS q hq j hj (by omega) (by omega);exact⟨_,_,fun hX hlo hhi=>KF hS ht he q1 q2 q3 h1 hv hX hlo hhi,hS'⟩
theorem zF {α:Type} {R:aY α} {xs ys:List α} {e e' t:TypeId} {v:Value} {cl:bv} {lo hi:Int} {ag:Bool} (hS:St W M T n G D F a w) (ht:lm P t=some e) (he:n7 P e=some (ag,R.size)) (q:Nat) (hq:D[q]? = some (.own v e' R.size cl)) (j:Nat) (hj:F[j]? = some (an R cl xs)) (hg:o0 xs lo hi=some ys) :
  ∃ v',(∀ (T:Nat→Prop) (w:World),aE R T w v xs→aE R T w v' ys)∧(∀ {E:Nat→Prop} {d:Option Nat} {ty:TypeId} {X:Operand} {olo ohi:Option Operand} {pos:String} {af:Array Edge} {g:Option (Nat×Bool)} {k1 k2:IntKind},ev G X=some v→((∃ x,olo=some x∧ev G x=some (.int k1 lo))∨(olo=none∧lo=0))→((∃ x,ohi=some x∧ev G x=some (.int k2 hi))∨(ohi=none∧hi=xs.length))→Ye P ⟨d,.slice t X olo ohi none,ty,pos,af,g⟩ a E w v'):=by
 obtain⟨q1,q2,q3,rfl⟩:=rA hg;obtain⟨A,c,hv,h1,h2,hS'⟩:=Kv (lo:=lo.toNat) (hi:=hi.toNat) hS q hq j hj (by omega) (by omega);refine⟨_,fun T w h=>?_,fun hX hlo hhi=>KF hS ht he q1 q2 q3 h1 hv hX hlo hhi⟩;subst hv;refine h.cut (by omega) (by omega) _ (fun hlt b o hA=>?_);rw [if_neg (by omega),hA];simp [lp]
theorem H3 {α:Type} {R:aY α} {xs ys:List α} {d:Nat} {t e e' ty:TypeId} {X:Operand} {olo ohi:Option Operand} {v:Value} {cl:bv} {k1 k2:IntKind} {lo hi:Int} {ag:Bool} (hS:St W M T n G D F a w) (ht:lm P t=some e) (he:n7 P e=some (ag,R.size)) (hX:ev G X=some v) (hlo:(∃ x,olo=some x∧ev G x=some (.int k1 lo))∨(olo=none∧lo=0)) (hhi:(∃ x,ohi=some x∧ev G x=some (.int k2 hi))∨(ohi=none∧hi=xs.length)) (q:Nat) (hq:D[q]? = some (.own v e' R.size cl)) (j:Nat) (hj:F[j]? = some (an R cl xs)) (hg:o0 xs lo hi=some ys) (hn:Nat.blt d n=true)
  (K':∀ v' cl' a,St W M T n ((d,v')::G) (D.set q (.own v' e' R.size cl')) (an R cl' ys::F) a w→K a w):qT P ⟨some d,.slice t X olo ohi none,ty,pos,af,g⟩ a w K:=by
 obtain⟨v',cl',hy,hS'⟩:=L4 hS ht he q hq j hj hg;exact ky hS' (hy hX hlo hhi) rfl hn fun a h=>K' _ _ a h
end
end
section
open Go.RowKit
variable {pos:String} {af:Array Edge} {g:Option (Nat×Bool)}
def bV {κ ν:Type} (RK:aY κ) (ak:Bool) (RV:aY ν) (av:Bool) (T:Nat→Prop) (w:World) (es:Array MapEntry) (xs:List (κ×ν)):Prop :=
 es.size=xs.length∧∀ (i:Nat) (e:MapEntry) (x:κ×ν),es[i]? = some e→xs[i]? = some x→(∃ c,RK.rel T w c x.1∧e.key=bp ak c)∧∃ c,RV.rel T w c x.2∧e.val=bp av c
theorem bV.keep {κ ν:Type} {RK:aY κ} {ak:Bool} {RV:aY ν} {av:Bool} {T T':Nat→Prop} {w w':World} {es:Array MapEntry} {xs:List (κ×ν)} (h:bV RK ak RV av T w es xs) (k:Kt T w w') (hn:Nw T T' w):bV RK ak RV av T' w' es xs :=
 ⟨h.1,fun i e x he hx=>by
  obtain⟨⟨c,h1,h2⟩,d,h3,h4⟩:=h.2 i e x he hx;exact⟨⟨c,RK.keep h1 k hn,h2⟩,d,RV.keep h3 k hn,h4⟩⟩
def pa {κ ν:Type} (RK:aY κ) (ak:Bool) (RV:aY ν) (av:Bool) (es:Array MapEntry) (xs:List (κ×ν)):cA:=⟨fun T w=>bV RK ak RV av T w es xs,fun h k n=>h.keep k n⟩
def tT {κ ν:Type} (q:κ→κ→Bool) (k:κ):List (κ×ν)→Option Nat
 | []=>none
 | x::r=>cond (q k x.1) (some 0) ((tT q k r).map (· + 1))
def cK {κ ν:Type} (q:κ→κ→Bool) (k:κ):List (κ×ν)→Option ν
 | []=>none
 | x::r=>cond (q k x.1) (some x.2) (cK q k r)
def eH {κ ν:Type} (q:κ→κ→Bool) (k:κ) (v:ν):List (κ×ν)→List (κ×ν)
 | []=>[(k,v)]
 | x::r=>cond (q k x.1) ((k,v)::r) (x::eH q k v r)
def sN {κ ν:Type} (q:κ→κ→Bool) (k:κ):List (κ×ν)→List (κ×ν)
 | []=>[]
 | x::r=>cond (q k x.1) r (x::sN q k r)
theorem ru {κ ν:Type} {q:κ→κ→Bool} {k:κ}:∀ {xs:List (κ×ν)},tT q k xs=none→cK q k xs=none∧(∀ v,eH q k v xs=xs++[(k,v)])∧sN q k xs=xs
 | [],_=>⟨rfl,fun _=>rfl,rfl⟩
 | x::r,h=>by
  cases hq:q k x.1 with
  | true=>simp [tT,hq] at h
  | false =>
   simp only [tT,hq,cond_false,Option.map_eq_none_iff] at h;obtain⟨h1,h2,h3⟩:=ru h;exact⟨by simp [cK,hq,h1],fun v=>by simp [eH,hq,h2],by simp [sN,hq,h3]⟩
theorem rx {κ ν:Type} {q:κ→κ→Bool} {k:κ}:∀ {xs:List (κ×ν)} {i:Nat},tT q k xs=some i→∃ x,xs[i]? = some x∧q k x.1=true∧cK q k xs=some x.2∧(∀ v,eH q k v xs=xs.set i (k,v))∧sN q k xs=xs.eraseIdx i
 | [],i,h=>by simp [tT] at h
 | x::r,i,h=>by
  cases hq:q k x.1 with
  | true =>
   simp only [tT,hq,cond_true,fg] at h;subst h;exact⟨x,rfl,hq,by simp [cK,hq],fun v=>by simp [eH,hq],by simp [sN,hq]⟩
  | false =>
   simp only [tT,hq,cond_false,Ga] at h;obtain⟨j,h1,rfl⟩:=h;obtain⟨y,g1,g2,g3,g4,g5⟩:=rx h1;exact⟨y,by simpa using g1,g2,by simp [cK,hq,g3],fun v=>by simp [eH,hq,g4],by simp [sN,hq,g5]⟩
structure xL {κ:Type} (P:Program) (t:TypeId) (RK:aY κ) (ak:Bool) (q:κ→κ→Bool):Prop where
 check:∀ (b:Bool) (T:Nat→Prop) (w0 w:World) (c:bv) (x:κ),RK.rel T w0 c x→(Instr.checkKey b 10000 t (bp ak c)).run P w = .ok () w
 eq:∀ (T T2:Nat→Prop) (w0 w1 w:World) (c d:bv) (x y:κ),RK.rel T w0 c x→RK.rel T2 w1 d y→(Op.equal t (bp ak c) (bp ak d)).run P w = .ok (q x y) w
 now:∃ kind,P.underlying t=some kind∧∀ (T T2:Nat→Prop) (w0 w1:World) (c d:bv) (x y:κ),RK.rel T w0 c x→RK.rel T2 w1 d y→Instr.sameNow kind (bp ak c) (bp ak d)=none∨Instr.sameNow kind (bp ak c) (bp ak d)=some (q x y)
 bits:∀ (T T2:Nat→Prop) (w0 w1:World) (c d:bv) (x y:κ),RK.rel T w0 c x→RK.rel T2 w1 d y→q x y=true→Instr.sameBits 10000 (bp ak d) (bp ak c)=true
def y4 (es:List MapEntry) (i0:Nat):Option Nat→Option (Nat×Value)
 | none=>none
 | some j=>(es[j]?).map fun e=>(i0+j,e.val)
theorem Da (e:MapEntry) (es:List MapEntry) (i0:Nat) (o:Option Nat):y4 (e::es) i0 (o.map (· + 1))=y4 es (i0+1) o:=by
 cases o with
 | none=>rfl
 | some j=>simp only [y4,o7,Ed]; rw [show i0+(j+1)=i0+1+j by omega]
section
variable {κ ν:Type} {P:Program} {t:TypeId} {RK:aY κ} {ak:Bool} {q:κ→κ→Bool} {T T2:Nat→Prop} {w0 w1:World} {c:bv} {k:κ}
theorem zn (hK:xL P t RK ak q) (hc:RK.rel T2 w1 c k) (w:World):∀ (es:List MapEntry) (xs:List (κ×ν)) (i0:Nat),es.length=xs.length→(∀ (i:Nat) (e:MapEntry) (x:κ×ν),es[i]? = some e→xs[i]? = some x→∃ c,RK.rel T w0 c x.1∧e.key=bp ak c)→(Instr.findAsking t (bp ak c) es i0).run P w = .ok (y4 es i0 (tT q k xs)) w
 | [],[],i0,_,_=>rfl
 | [],_::_,i0,h,_=>by simp at h
 | _::_,[],i0,h,_=>by simp at h
 | e::es,x::xs,i0,h,hr=>by
  obtain⟨d,h1,h2⟩:=hr 0 e x rfl rfl;have he:=hK.eq _ _ _ _ w _ _ _ _ hc h1;have ih:=zn hK hc w es xs (i0+1) (by simpa using h) fun i e' x' a b=>hr (i+1) e' x' (by simpa using a) (by simpa using b);unfold Instr.findAsking;rw [h2,Sem.run_bind,he,Result.andThen_ok];unfold tT;cases hq:q k x.1 with
  | true=>simp [y4]
  | false =>
   rw [cond_false,Da];simpa using ih
theorem FO (hK:xL P t RK ak q) (hc:RK.rel T2 w1 c k) {kind:TypeDesc} (hn:∀ (T T2:Nat→Prop) (w0 w1:World) (c d:bv) (x y:κ),RK.rel T w0 c x→RK.rel T2 w1 d y→Instr.sameNow kind (bp ak c) (bp ak d)=none∨Instr.sameNow kind (bp ak c) (bp ak d)=some (q x y)) :
  ∀ (es:List MapEntry) (xs:List (κ×ν)) (i0:Nat),es.length=xs.length→(∀ (i:Nat) (e:MapEntry) (x:κ×ν),es[i]? = some e→xs[i]? = some x→∃ c,RK.rel T w0 c x.1∧e.key=bp ak c)→Instr.findNow kind (bp ak c) es i0=none∨Instr.findNow kind (bp ak c) es i0=some (y4 es i0 (tT q k xs))
 | [],[],i0,_,_=>.inr rfl
 | [],_::_,i0,h,_=>by simp at h
 | _::_,[],i0,h,_=>by simp at h
 | e::es,x::xs,i0,h,hr=>by
  obtain⟨d,h1,h2⟩:=hr 0 e x rfl rfl;have ih:=FO hK hc hn es xs (i0+1) (by simpa using h) fun i e' x' a b=>hr (i+1) e' x' (by simpa using a) (by simpa using b);unfold Instr.findNow;rw [h2];rcases hn _ _ _ _ _ _ _ _ hc h1 with h3 | h3
  ·rw [h3]; exact .inl rfl
  ·rw [h3];unfold tT;cases hq:q k x.1 with
   | true=>right; simp [y4]
   | false=>rw [cond_false,Da]; exact ih
theorem rL (hK:xL P t RK ak q) (hc:RK.rel T2 w1 c k) (w:World) {es:List MapEntry} {xs:List (κ×ν)} (h:es.length=xs.length) (hr:∀ (i:Nat) (e:MapEntry) (x:κ×ν),es[i]? = some e→xs[i]? = some x→∃ c,RK.rel T w0 c x.1∧e.key=bp ak c):(Instr.findKey t (bp ak c) es).run P w = .ok (y4 es 0 (tT q k xs)) w:=by
 obtain⟨kind,hu,hn⟩:=hK.now;unfold Instr.findKey;rw [Sem.run_bind,run_underlying hu,Result.andThen_ok];rcases FO (T:=T) (w0:=w0) (ν:=ν) hK hc hn es xs 0 h hr with h3 | h3
 ·rw [h3]; exact zn hK hc w es xs 0 h hr
 ·rw [h3]; rfl
end
theorem vI {P:Program} {w:World} {r:Nat} {es:Array MapEntry} {clock:Nat} (hb:w.heap[r]? = some (.map es clock)):(getObj r).run P w = .ok (.map es clock) w:=by
 simp [getObj,Sem.run,hb]
theorem CK {P:Program} {w:World} {r:Nat} {es:Array MapEntry} {clock:Nat} (o:Obj) (hb:w.heap[r]? = some (.map es clock)):(setObj r o).run P w = .ok () { w with heap:=w.heap.setIfInBounds r o }:=by
 simp [setObj,Sem.run,hb]
theorem qd {w:World} {r:Nat} {o o':Obj} (hb:w.heap[r]? = some o):(w.heap.setIfInBounds r o')[r]? = some o'∧∀ r',r'≠r→(w.heap.setIfInBounds r o')[r']? = w.heap[r']?:=by
 have hlt:r<w.heap.size:=(si.1 hb).1;exact⟨by simp [hlt],fun r' hne=>by simp [Ne.symm hne]⟩
def FN (P:Program) (t:TypeId):Option (TypeId×TypeId):=match P.underlying t with
 | some (.map k e)=>some (k,e)
 | _=>none
theorem l9 {P:Program} {t k e:TypeId} (h:FN P t=some (k,e)):P.underlying t=some (.map k e):=by
 unfold FN at h;split at h
 ·rename_i a b hu;simp only [fg,AS] at h;obtain⟨rfl,rfl⟩:=h;exact hu
 ·cases h
def Lr (P:Program) (t:TypeId):Option Value:=match P.info? t with
 | some i=>i.zero
 | none=>none
theorem CZ {P:Program} {t:TypeId} {z:Value} (h:Lr P t=some z) (w:World):(zeroValue t).run P w = .ok z w:=by
 unfold Lr at h;split at h
 ·rename_i i hi;simp [zeroValue,typeInfo,hi,h]
 ·cases h
section
variable {κ ν:Type} {P:Program} {W:World} {M T E:Nat→Prop} {n:Nat} {G G':List (Nat×Value)} {D D':List db} {F F':List cA} {a:Act} {w w':World} {K:Act→World→Prop}
variable {kt et:TypeId} {RK:aY κ} {ak:Bool} {RV:aY ν} {av:Bool} {q:κ→κ→Bool} {b clock:Nat} {es:Array MapEntry} {xs:List (κ×ν)}
theorem St.mapOk (hS:St W M T n G D F a w) (j:Nat) (hj:F[j]? = some (pa RK ak RV av es xs)):bV RK ak RV av (dT T D) w es xs:=hS.get j hj
theorem vw {T:Nat→Prop} {w:World} (h:bV RK ak RV av T w es xs):es.toList.length=xs.length∧∀ (i:Nat) (e:MapEntry) (x:κ×ν),es.toList[i]? = some e→xs[i]? = some x→∃ c,RK.rel T w c x.1∧e.key=bp ak c :=
 ⟨by simpa using h.1,fun i e x he hx=>(h.2 i e x (by simpa using he) hx).1⟩
theorem qY {d:Nat} {t ty:TypeId} (RK:aY κ) (ak:Bool) (RV:aY ν) (av:Bool) (hS:St W M T n G D F a w) (hn:Nat.blt d n=true)
  (k:∀ b,w.heap.size≤b→∀ a w',Kt No w w'→St W M T n ((d,.map (some b))::G) (.obj b (.map #[] 0)::D) (pa RK ak RV av #[] []::F) a w'→K a w'):qT P ⟨some d,.makeMap t none,ty,pos,af,g⟩ a w K:=by
 have hr:(execOp a.eval ⟨some d,.makeMap t none,ty,pos,af,g⟩).run P w = .ok (.value (.map (some w.heap.size))) (w.alloc (.map #[] 0)):=by
  simp [execOp,Instr.makeMap]
 refine ux hr (k w.heap.size (cX _) _ _ (Kt.alloc _ _) ?_);exact ((hS.add (Kt.alloc _ _) (.obj w.heap.size (.map #[] 0)) (heap_alloc_new w _) (fun k hk=>by simp only [db.dom,fg] at hk; omega)).fact (pa RK ak RV av #[] []) ⟨rfl,fun i e x he hx=>by simp at he⟩).put hn _
theorem DF {t:TypeId} (ht:FN P t=some (kt,et)) (hK:xL P kt RK ak q) {T T2:Nat→Prop} {w w0 w1:World} (hr:w.heap[b]? = some (.map es clock)) (hm:bV RK ak RV av T w0 es xs) {c:bv} {key:κ} (hc:RK.rel T2 w1 c key) {z:Value} {zc:bv} {z0:ν} (hz:Lr P et=some z) (hzc:z=bp av zc) (hz0:RV.rel T w0 zc z0) :
  ∃ cv,RV.rel T w0 cv ((cK q key xs).getD z0)∧(∀ ok,(Instr.lookup t (.map (some b)) (bp ak c) ok).run P w = .ok (if ok then .tuple #[bp av cv,.bool (cK q key xs).isSome] else bp av cv) w)∧True:=by
 obtain⟨hl,hkeys⟩:=vw hm;have hf:=rL hK hc w hl hkeys;have hch:∀ e,(Instr.checkKey e 10000 kt (bp ak c)).run P w = .ok () w:=fun e=>hK.check e _ _ w _ _ hc;have hzr:=CZ (P:=P) hz w;cases hp:tT q key xs with
 | none =>
  obtain⟨g1,_,_⟩:=ru hp;rw [hp] at hf;refine⟨zc,by rw [g1]; exact hz0,fun ok=>?_,trivial⟩;cases ok <;> simp [Instr.lookup,run_underlying (l9 ht),vI hr,hch,hf,y4,hzr,hzc,g1]
 | some i =>
  obtain⟨x,hx,_,g1,_,_⟩:=rx hp;rw [hp] at hf;have hi:i<es.toList.length:=by rw [hl]; exact (bN.1 hx).1
  have he:es.toList[i]? = some es.toList[i]:=bS hi;obtain⟨_,cv,h3,h4⟩:=hm.2 i _ x (by rw [← xH]; exact he) hx;refine⟨cv,by rw [g1]; exact h3,fun ok=>?_,trivial⟩;have hat:y4 es.toList 0 (some i)=some (i,es.toList[i].val):=by simp only [y4,he,o7,tC]
  rw [hat] at hf;cases ok <;> simp only [Instr.lookup,Sem.run_bind,run_underlying (l9 ht),Result.andThen_ok,vI hr,hch,hf,h4,g1,Sem.run_pure,Option.isSome_some,F7,if_false,if_true]
theorem L3 {t:TypeId} (hS:St W M T n G D F a w) (ht:FN P t=some (kt,et)) (hK:xL P kt RK ak q) (i:Nat) (hi:D[i]? = some (.obj b (.map es clock))) (j:Nat) (hj:F[j]? = some (pa RK ak RV av es xs)) {c:bv} {key:κ} (hc:RK.rel (dT T D) w c key) {z:Value} {zc:bv} {z0:ν} (hz:Lr P et=some z) (hzc:z=bp av zc) (hz0:RV.rel (dT T D) w zc z0) :
  ∃ cv,RV.rel (dT T D) w cv ((cK q key xs).getD z0)∧(∀ {E:Nat→Prop} {d:Option Nat} {X Y:Operand} {ok:Bool} {ty:TypeId} {pos:String} {af:Array Edge} {g:Option (Nat×Bool)},ev G X=some (.map (some b))→ev G Y=some (bp ak c)→¬ E b →
   Ye P ⟨d,.lookup t X Y ok,ty,pos,af,g⟩ a E w (if ok then .tuple #[bp av cv,.bool (cK q key xs).isSome] else bp av cv)):=by
 have hr:w.heap[b]? = some (.map es clock):=hS.own _ (a6 hi);have hm:=hS.mapOk j hj;obtain⟨cv,h1,h2,_⟩:=DF (P:=P) ht hK hr hm hc hz hzc hz0;refine⟨cv,h1,fun hX hY hE w' hk=>?_⟩;have hr':=(hk.block b (si.1 hr).1 hE).trans hr;obtain⟨cv2,h3,h4,_⟩:=DF (P:=P) ht hK hr' hm hc hz hzc hz0;have e1:=hS.ev hX;have e2:=hS.ev hY;have hrun:∀ ok,(Instr.lookup t (.map (some b)) (bp ak c) ok).run P w' = .ok (if ok then .tuple #[bp av cv,.bool (cK q key xs).isSome] else bp av cv) w':=fun ok=>by
  obtain⟨hl,hkeys⟩:=vw hm;have a1:=h2 ok;have hf:=rL hK hc w hl hkeys;have hf':=rL hK hc w' hl hkeys;have hch:∀ e (w:World),(Instr.checkKey e 10000 kt (bp ak c)).run P w = .ok () w:=fun e w=>hK.check e _ _ w _ _ hc;have hzr:=CZ (P:=P) hz;revert a1;cases hp:y4 es.toList 0 (tT q key xs) with
  | none =>
   rw [hp] at hf hf';cases ok <;> simp [Instr.lookup,run_underlying (l9 ht),vI hr,vI hr',hch,hf,hf',hzr]
  | some y =>
   rw [hp] at hf hf';cases ok <;> simp [Instr.lookup,run_underlying (l9 ht),vI hr,vI hr',hch,hf,hf']
 simp [execOp,e1,e2,hrun]
theorem fh {t:TypeId} (hS:St W M T n G D F a w) (ht:FN P t=some (kt,et)) (hK:xL P kt RK ak q) (i:Nat) (hi:D[i]? = some (.obj b (.map es clock))) (j:Nat) (hj:F[j]? = some (pa RK ak RV av es xs)) {c:bv} {key:κ} (hc:RK.rel (dT T D) w c key) {z:Value} {zc:bv} {z0 u:ν} (hz:Lr P et=some z) (hzc:z=bp av zc) (hz0:RV.rel (dT T D) w zc z0) (hu:some ((cK q key xs).getD z0)=some u) :
  ∃ cv,RV.rel (dT T D) w cv u∧(∀ {E:Nat→Prop} {d:Option Nat} {X Y:Operand} {ok:Bool} {ty:TypeId} {pos:String} {af:Array Edge} {g:Option (Nat×Bool)},ev G X=some (.map (some b))→ev G Y=some (bp ak c)→¬ E b →
   Ye P ⟨d,.lookup t X Y ok,ty,pos,af,g⟩ a E w (if ok then .tuple #[bp av cv,.bool (cK q key xs).isSome] else bp av cv)):=by
 obtain rfl:=fq hu;exact L3 hS ht hK i hi j hj hc hz hzc hz0
theorem pE {w:World} {b:Nat} {o o':Obj} (hr:w.heap[b]? = some o):Kt (fun k=>some b=some k) w { w with heap:=w.heap.setIfInBounds b o' } :=
 ⟨rfl,rfl,rfl,by simp,fun k _ hn=>(qd (o':=o') hr).2 k fun e=>hn (by rw [e])⟩
theorem x5 {t ty:TypeId} {X Y Z:Operand} (hS:St W M T n G D F a w) (ht:FN P t=some (kt,et)) (hK:xL P kt RK ak q) (i:Nat) (hi:D[i]? = some (.obj b (.map es clock))) (j:Nat) (hj:F[j]? = some (pa RK ak RV av es xs))
  {c cv:bv} {key:κ} {val:ν} (hc:RK.rel (dT T D) w c key) (hv:RV.rel (dT T D) w cv val) (hX:ev G X=some (.map (some b))) (hY:ev G Y=some (bp ak c)) (hZ:ev G Z=some (bp av cv))
  (k:∀ es' ck' w',Kt (fun j=>j=b) w w'→St W M T n G (D.set i (.obj b (.map es' ck'))) (pa RK ak RV av es' (eH q key val xs)::F) a w'→K a w'):qT P ⟨none,.mapUpdate t X Y Z,ty,pos,af,g⟩ a w K:=by
 have hr:w.heap[b]? = some (.map es clock):=hS.own _ (a6 hi);have hm:=hS.mapOk j hj;obtain⟨hl,hkeys⟩:=vw hm;have hf:=rL hK hc w hl hkeys;have hch:=hK.check false _ _ w _ _ hc;have fin:∀ es' ck',(Instr.mapUpdate t (.map (some b)) (bp ak c) (bp av cv)).run P w = .ok () { w with heap:=w.heap.setIfInBounds b (.map es' ck') }→bV RK ak RV av (dT T D) w es' (eH q key val xs)→qT P ⟨none,.mapUpdate t X Y Z,ty,pos,af,g⟩ a w K:=fun es' ck' hrun hok=>by
  refine DA (w':={ w with heap:=w.heap.setIfInBounds b (.map es' ck') }) (by simp [execOp,hS.ev hX,hS.ev hY,hS.ev hZ,hrun]) (k es' ck' _ ((pE hr).mono fun j hj=>(fq hj).symm) ?_);exact (hS.fact (pa RK ak RV av es' _) hok).turn hi (pE hr) (r':=.obj b (.map es' ck')) (qd hr).1 fun j hj=>.inl hj
 cases hp:tT q key xs with
 | none =>
  obtain⟨_,g2,_⟩:=ru hp;rw [hp] at hf;refine fin (es.push { key:=bp ak c,val:=bp av cv,born:=clock }) (clock+1) ?_ ⟨by rw [g2]; simp [hm.1],fun z e x he hx=>?_⟩
  ·simp [Instr.mapUpdate,run_underlying (l9 ht),vI hr,hch,hf,y4,CK _ hr]
  ·rw [g2] at hx;by_cases hz:z<xs.length
   ·rw [m6 hz] at hx;rw [Array.getElem?_push_lt (by rw [hm.1]; exact hz)] at he;exact hm.2 z e x (by rw [← he]; exact (n3 _)) hx
   ·rw [o5 (by omega)] at hx;obtain rfl:z=xs.length:=by
     rcases kP xs.length z with h | h
     ·rw [tG (by simp; omega)] at hx; cases hx
     ·omega
    simp at hx;subst hx;rw [← hm.1,Gb] at he;simp only [fg] at he;subst he;exact⟨⟨c,hc,rfl⟩,cv,hv,rfl⟩
 | some p =>
  obtain⟨x0,hx0,hq0,_,g2,_⟩:=rx hp;have hpi:p<es.size:=by rw [hm.1]; exact (bN.1 hx0).1
  have he0:es[p]? = some es[p]:=n3 hpi;obtain⟨⟨d0,hd0,hk0⟩,_⟩:=hm.2 p _ x0 he0 hx0;have hbits:=hK.bits _ _ _ _ _ _ _ _ hc hd0 hq0;rw [hp] at hf;refine fin (es.modify p fun e=>{ e with key:=bp ak c,val:=bp av cv }) clock ?_ ⟨by rw [g2]; simp [hm.1],fun z e x he hx=>?_⟩
  ·have hat:y4 es.toList 0 (some p)=some (p,es[p].val):=by simp [y4,he0]
   rw [hat] at hf;have hkt:(Instr.keyThatStays (((es[p]?).map (·.key)).getD (bp ak c)) (bp ak c)).run P w = .ok (bp ak c) w:=by
    rw [he0];simp only [o7,B3,hk0,Instr.keyThatStays,hbits,if_true,Sem.run_pure]
   simp only [Instr.mapUpdate,Sem.run_bind,run_underlying (l9 ht),Result.andThen_ok,vI hr,hch,hf,hkt,CK _ hr]
  ·rw [g2] at hx;by_cases hz:p=z
   ·subst hz;rw [B0 (by rw [← hm.1]; exact hpi)] at hx;simp only [fg] at hx;subst hx;rw [yO,if_pos rfl,he0] at he;simp only [o7,fg] at he;subst he;exact⟨⟨c,hc,rfl⟩,cv,hv,rfl⟩
   ·rw [List.getElem?_set_ne hz] at hx;rw [yO,if_neg hz] at he;exact hm.2 z e x he hx
end
end
section
open Go.RowKit
variable {pos:String} {af:Array Edge} {g:Option (Nat×Bool)}
def MD (D0:List db):Nat→Prop:=fun k=>∃ r∈D0,r.dom k
structure ze (T:Nat→Prop) (w:World) (D0:List db):Prop where
 own:∀ r∈D0,r.ok w
 free:∀ r∈D0,∀ k,r.dom k→¬ T k
 apart:D0.Pairwise fun r s=>∀ k,r.dom k→¬ s.dom k
structure qG (W w:World) (D0 rs:List db):Prop where
 own:∀ r∈rs,r.ok w
 from_:∀ r∈rs,∀ k,r.dom k→MD D0 k∨W.heap.size≤k
 apart:rs.Pairwise fun r s=>∀ k,r.dom k→¬ s.dom k
theorem lx {P:Program} {f:FuncId} {fn:Func} {c:Code} {args:bv} {w:World} {R:Value→World→Prop} {D0:List db} (hf:P.funcs[f]? = some fn) (hb:fn.body=some c)
  (T:Nat→Prop) (n:Nat) (hn:fn.ntmps=n) (hT:∀ k,T k→k<w.heap.size) (hl:Nat.ble args.length n=true) (hD:ze T w D0)
  (h:∀ a,St w (MD D0) T n (mz 0 args) D0 [] a w→c.wp P (bodyPost P fn (Np (MD D0) w R)) a w):bj P (MD D0) f args w R:=by
 refine calls_of_wp hf hb (h _ ?_);subst hn;have hS:=St.start w (MD D0) T fn.ntmps args hT (o4 hl) (mz 0 args) fun t v hv=>by
  obtain⟨h1,h2⟩:=y9 args 0 t v hv;simpa using h2
 exact⟨hS.size,hS.defers,hS.slots,hS.base,hD.own,fun r hr k hk=>⟨hD.free r hr k hk,.inl ⟨r,hr,hk⟩⟩,hD.apart,fun f hf=>(by cases hf),hT⟩
section
variable {P:Program} {W:World} {M T E:Nat→Prop} {n:Nat} {G G':List (Nat×Value)} {D D' D0 Dr rs:List db} {F F':List cA} {a:Act} {w w':World} {K:Act→World→Prop}
theorem St.dnew (hS:St W (MD D0) T n G rs F a w):qG W w D0 rs:=⟨hS.own,fun r hr k hk=>(hS.free r hr k hk).2,hS.apart⟩
theorem St.reD (hS:St W M T n G D F a w) (is:List Nat) (hn:is.Nodup) (hd:n9 D is D'):St W M T n G D' F a w :=
 hS.res (fun r hr=>hd.mem r hr) (hd.pw hS.apart hn)
theorem St.dok (hS:St W M T n G (D0++Dr) F a w):ze (dT T Dr) w D0:=by
 obtain⟨h1,h2,h3⟩:=xJ.1 hS.apart;refine⟨fun r hr=>hS.own r (qC _ hr),fun r hr k hk ht=>?_,h1⟩;rcases ht with ht | ⟨s,hs,hk2⟩
 ·exact (hS.free r (qC _ hr) k hk).1 ht
 ·exact h3 r hr s hs k hk hk2
theorem zD:∀ k,dT (dT T Dr) D0 k↔dT T (D0++Dr) k:=fun k=>by
 unfold dT;constructor
 ·rintro ((h | ⟨r,hr,hk⟩) | ⟨r,hr,hk⟩)
  ·exact .inl h
  ·exact .inr ⟨r,wh _ hr,hk⟩
  ·exact .inr ⟨r,qC _ hr,hk⟩
 ·rintro (h | ⟨r,hr,hk⟩)
  ·exact .inl (.inl h)
  ·rcases dz.1 hr with hr | hr
   ·exact .inr ⟨r,hr,hk⟩
   ·exact .inl (.inr ⟨r,hr,hk⟩)
theorem St.getD (hS:St W M T n G (D0++Dr) F a w) (i:Nat) {f:cA} (hi:F[i]? = some f):f.p (dT (dT T Dr) D0) w :=
 f.keep (hS.get i hi) (au _ _) fun k hk=>.inl ((zD k).1 hk)
theorem St.dltD (hS:St W M T n G (D0++Dr) F a w):∀ k,dT T Dr k→k<w.heap.size:=fun k hk=>hS.dlt k (by
 rcases hk with h | ⟨r,hr,h⟩
 ·exact .inl h
 ·exact .inr ⟨r,wh _ hr,h⟩)
theorem aB (w:World):Nw (dT (dT T Dr) rs) (dT T (rs++Dr)) w:=fun k hk=>.inl ((zD k).2 hk)
theorem St.swapD (hS:St W M T n G (D0++Dr) F a w) (hk:Kt (MD D0) w w') (hN:qG w w' D0 rs):St W M T n G (rs++Dr) F a w':=by
 obtain⟨h1,h2,h3⟩:=xJ.1 hS.apart;have m0:∀ k,MD D0 k→¬ T k∧(M k∨W.heap.size≤k)∧dT T (D0++Dr) k∧k<w.heap.size:=fun k ⟨r,hr,hk⟩=>by
  have:=hS.free r (qC _ hr) k hk;exact⟨this.1,this.2,.inr ⟨r,qC _ hr,hk⟩,db.lt (hS.own r (qC _ hr)) k hk⟩
 have hr0:∀ s∈Dr,∀ k,s.dom k→¬ MD D0 k∧k<w.heap.size:=fun s hs k hk=>⟨fun ⟨r,hr,hk2⟩=>h3 r hr s hs k hk2 hk,db.lt (hS.own s (wh _ hs)) k hk⟩;have hsz:=hS.base.size;refine⟨hS.size,hS.defers,hS.slots,hS.base.step hk fun k h=>(m0 k h).2.1,fun r hr=>?_,fun r hr k hkd=>?_,xJ.2 ⟨hN.apart,h2,fun r hr s hs k hkr hks=>?_⟩,fun f hf=>f.keep (hS.facts f hf) (hk.mono fun k h=>(m0 k h).2.2.1) fun k hkd=>?_,fun k h=>xG (hS.tlt k h) hk.size⟩
 ·rcases dz.1 hr with hr | hr
  ·exact hN.own r hr
  ·exact db.keep (hS.own r (wh _ hr)) fun k hkd=>hk.block k (hr0 r hr k hkd).2 (hr0 r hr k hkd).1
 ·rcases dz.1 hr with hr | hr
  ·rcases hN.from_ r hr k hkd with h | h
   ·exact⟨(m0 k h).1,(m0 k h).2.1⟩
   ·exact⟨fun ht=>by have:=hS.tlt k ht; omega,.inr (by omega)⟩
  ·exact hS.free r (wh _ hr) k hkd
 ·have h4:=hr0 s hs k hks;rcases hN.from_ r hr k hkr with h | h
  ·exact h4.1 h
  ·omega
 ·rcases hkd with h | ⟨r,hr,hkd⟩
  ·exact .inl (.inl h)
  ·rcases dz.1 hr with hr | hr
   ·rcases hN.from_ r hr k hkd with h | h
    ·exact .inl (m0 k h).2.2.1
    ·exact .inr h
   ·exact .inl (.inr ⟨r,wh _ hr,hkd⟩)
theorem de {d:Nat} {ty:TypeId} {args:Array Operand} {tys:Array TypeId} {f:Nat} {vs:bv} {R:Value→World→Prop} (hS:St W M T n G (D0++Dr) F a w) (hf:aT P f=true) (hargs:evs G args.toList=some vs) (hn:Nat.blt d n=true) (hc:bj P (MD D0) f vs w R)
  (k:∀ v w',R v w'→∀ a,Kt (MD D0) w w'→(∀ rs,qG w w' D0 rs→St W M T n ((d,v)::G) (rs++Dr) F a w')→K a w'):qT P ⟨some d,.call { callee:=.value (.func f),args:=args,argTypes:=tys },ty,pos,af,g⟩ a w K :=
 w7 (cap:=[]) rfl hS rfl hf hargs (by rw [uo]; exact hc) fun v w' hk hr=>k v w' hr _ hk (fun rs h=>(hS.swapD hk h).put hn v)
end
end
section
open Go.RowKit
variable {pos:String} {af:Array Edge} {g:Option (Nat×Bool)}
def E2 (l:List Int):ByteArray:=⟨(l.map fun n=>UInt8.ofNat n.toNat).toArray⟩
def OG (k:IntKind) (x n:Int):Int:=k.wrap (x*2 ^ (min n.toNat k.bits))
def DT (k:IntKind) (x n:Int):Int:=x.fdiv (2 ^ (min n.toNat k.bits))
theorem Bi {T:Nat→Prop} {w:World} {cl:bv} {l:List Int} (h:aA (aY.int .u8) T w cl l):cl=l.map (Value.int .u8):=by
 obtain⟨h1,h2⟩:=h;have h1:cl.length=l.length:=by simpa [aY.int] using h1
 apply List.ext_getElem (by simpa using h1);intro i hi hj;have hi':i<l.length:=by omega
 obtain⟨cs,h3,h4⟩:=h2 i _ (bS hi');have h3:cs=[.int .u8 l[i]]:=h3;subst h3;have:=h4 0 _ rfl;have hs:(aY.int .u8).size=1:=rfl;rw [hs,Nat.mul_one,sh,bS hi] at this;simp only [fg] at this;rw [this]; simp
section
variable {P:Program}
end
section
variable {P:Program} {W:World} {M T E:Nat→Prop} {n:Nat} {G G':List (Nat×Value)} {D D':List db} {F F':List cA} {a:Act} {w w':World} {K:Act→World→Prop}
theorem Qz {d:Option Nat} {t t':TypeId} {x y:Operand} {ty:TypeId} {k k':IntKind} {p q:Int} (hS:St W M T n G D F a w) (hx:ev G x=some (.int k p)) (hy:ev G y=some (.int k' q)) (hq:decide (0≤q)=true):Ye P ⟨d,.binOp .shl t x y t',ty,pos,af,g⟩ a E w (.int k (OG k p q)) :=
 Ye.of fun w=>by
  have h1:=hS.ev hx;have h2:=hS.ev hy;have h3:¬ q<0:=by have:=of_decide_eq_true hq; omega
  simp [execOp,h1,h2,eqGuard,binOp,Op.shift,h3,OG]
theorem OV {d:Option Nat} {t t':TypeId} {x y:Operand} {ty:TypeId} {k k':IntKind} {p q:Int} (hS:St W M T n G D F a w) (hx:ev G x=some (.int k p)) (hy:ev G y=some (.int k' q)) (hq:decide (0≤q)=true):Ye P ⟨d,.binOp .shr t x y t',ty,pos,af,g⟩ a E w (.int k (DT k p q)) :=
 Ye.of fun w=>by
  have h1:=hS.ev hx;have h2:=hS.ev hy;have h3:¬ q<0:=by have:=of_decide_eq_true hq; omega
  simp [execOp,h1,h2,eqGuard,binOp,Op.shift,h3,DT]
theorem zS:∀ (ns:List Int) (r:ByteArray),ns.foldl (fun r n=>r.push (UInt8.ofNat n.toNat)) r=⟨r.data++(ns.map fun n=>UInt8.ofNat n.toNat).toArray⟩
 | [],r=>by simp
 | n::ns,r=>by
  rw [vi,zS ns];apply ByteArray.ext;simp [ByteArray.push]
theorem Jw (w:World) (A:Option Addr) (m c:Nat) (xs:List Int) (hm:m=xs.length) (hat:At w A (xs.map (Value.int .u8))):(Conv.bytesToString (.slice A m c)).run P w = .ok (.string (E2 xs)) w:=by
 rcases hat with h | ⟨b,off,rfl,h⟩
 ·have:xs=[]:=by simpa using h
  subst this;have hm:m=0:=hm;subst hm;cases A <;> simp [Conv.bytesToString,loadCells,loadCellsFrom,E2,Sem.run_pure] <;> rfl
 ·have hl:=run_loadCells_list (P:=P) w ⟨b,off,none⟩ (xs.map (Value.int .u8)) (fun j u hu=>by rw [Addr.add_lit]; exact h j u hu);rw [qR,← hm] at hl;rw [run_bytesToString w ⟨b,off,none⟩ m c xs hl,zS];simp [E2]
theorem M8 {d:Option Nat} {s t e e':TypeId} {x:Operand} {ty:TypeId} {v:Value} {cl:bv} {xs:List Int} (hS:St W M T n G D F a w) (hx:ev G x=some v) (hs:P.underlying s=some (.slice e)) (he:P.underlying e=some (.int .u8)) (ht:P.underlying t=some .string) (i:Nat) (hi:D[i]? = some (.own v e' (aY.int .u8).size cl)) (j:Nat) (hj:F[j]? = some (an (aY.int .u8) cl xs)) (hE:∀ k,v.ownBlock=some k→¬ E k):Ye P ⟨d,.convert s t x,ty,pos,af,g⟩ a E w (.string (E2 xs)):=fun w' hk=>by
 obtain⟨hown,hsz⟩:=hS.own _ (a6 hi);have hrow:aA (aY.int .u8) (dT T D) w cl xs:=hS.get j hj;have hcl:=Bi hrow;have h1:∃ A m c,v = .slice A m c∧m=xs.length∧At w' A (xs.map (Value.int .u8)):=by
  rcases hown with⟨rfl,h0⟩|⟨g,off,m,cap,cs,rfl,a1,hb,hg,hnc,hc,hsz2,hcs⟩
  ·have hz:xs=[]:=by rw [h0] at hcl; simpa using hcl.symm
   exact⟨none,0,0,rfl,by rw [hz]; rfl,.inl (by rw [hz]; rfl)⟩
  ·have hg':=hg.eqb (hk.block g hg.lt (hE g rfl));refine⟨_,_,_,rfl,?_,.inr ⟨g,off,rfl,fun j u hu=>?_⟩⟩
   ·have:(aY.int .u8).size=1:=rfl;have:=congrArg List.length hcl;simp at this; simp only [aY.int] at a1; omega
   ·rw [hg'.cell];exact hcs j u (by rw [hcl]; exact hu)
 obtain⟨A,m,c,rfl,hm,hat⟩:=h1;have:=Jw (P:=P) w' A m c xs hm hat;simp [execOp,hS.ev hx,convert,run_underlying hs,run_underlying he,run_underlying ht,this]
end
end
section
open Go.Lib
def Cb (c:UInt8):Bool:=decide (48≤c.toNat)&&decide (c.toNat≤57)
def cL:List UInt8→Nat→Int
 | [],n=>n
 | c::r,n=>if Cb c then cL r (10*n+(c.toNat-48)) else -1
def sJ (l:List UInt8):Int:=if l=[]∨9<l.length∨(l.getD 0 0=48∧l≠[48]) then -1 else cL l 0
theorem wt:∀ (l:List UInt8) (n:Nat),cL l n = -1∨(n:Int)≤cL l n
 | [],n=>.inr (by simp [cL])
 | c::r,n=>by
  unfold cL;split
  ·rcases wt r (10*n+(c.toNat-48)) with h | h
   ·exact .inl h
   ·exact .inr (by omega)
  ·exact .inl rfl
theorem zG:∀ (l:List UInt8) (n:Nat),cL l n<(n+1)*10 ^ l.length
 | [],n=>by simp [cL]; omega
 | c::r,n=>by
  unfold cL;split
  ·rename_i h;have hc:c.toNat≤57:=by simp [Cb] at h; omega
   have:=zG r (10*n+(c.toNat-48));have h2:((10*n+(c.toNat-48):Nat):Int)+1≤(n+1)*10:=by omega
   have h3:(((10*n+(c.toNat-48):Nat):Int)+1)*10 ^ r.length≤((n+1)*10)*10 ^ r.length:=Int.mul_le_mul_of_nonneg_right h2 (by exact Int.le_of_lt (Int.pow_pos (by omega)));have h4:(((n:Int)+1)*10)*10 ^ r.length=((n:Int)+1)*10 ^ (c::r).length:=by rw [gH,Int.pow_succ,Int.mul_assoc,Int.mul_comm 10]
   omega
  ·have:(0:Int)<((n:Int)+1)*10 ^ (c::r).length:=Int.mul_pos (by omega) (Int.pow_pos (by omega));omega
theorem rK:∀ (l:List UInt8) (n m:Nat) (c:UInt8),cL l n=m→cL (l++[c]) n=if Cb c then ((10*m+(c.toNat-48):Nat):Int) else -1
 | [],n,m,c,h=>by
  simp only [cL] at h;have:n=m:=by omega
  subst this;simp [cL]
 | d::r,n,m,c,h=>by
  unfold cL at h;split at h
  ·rename_i hd;show cL (d::(r++[c])) n=_;rw [cL,if_pos hd];exact rK r _ m c h
  ·omega
theorem xU {k:Nat} (h:k<10):(UInt8.ofNat (48+k)).toNat=48+k:=by
 have:(UInt8.ofNat (48+k)).toNat=(48+k) % 256:=rfl;omega
theorem Cc {k:Nat} (h:k<10):Cb (UInt8.ofNat (48+k))=true:=by
 unfold Cb; rw [xU h]; simp; omega
theorem yF (n:Nat):cL (decDigits n) 0=n:=by
 induction n using Nat.strongRecOn with
 | _ n ih =>
  rw [decDigits];split
  ·rename_i h;simp only [cL,Cc h,if_true,xU h];omega
  ·rename_i h;rw [rK _ 0 (n / 10) _ (ih (n / 10) (by omega)),Cc (by omega),if_pos rfl,xU (by omega)];omega
theorem Ca (n:Nat):decDigits n≠[]:=by
 rw [decDigits]; split <;> simp
theorem HI (n:Nat):(decDigits n).getD 0 0=48→decDigits n=[48]:=by
 induction n using Nat.strongRecOn with
 | _ n ih =>
  rw [decDigits];split
  ·rename_i h;intro h2;simp only [List.getD_cons_zero] at h2;rw [h2]
  ·rename_i h;intro h2;have hne:=Ca (n / 10);have h3:(decDigits (n / 10)).getD 0 0=48:=by
    cases hd:decDigits (n / 10) with
    | nil=>exact absurd hd hne
    | cons a r=>rw [hd] at h2; simpa using h2
   have h4:=ih (n / 10) (by omega) h3;have h5:=yF (n / 10);rw [h4] at h5;have:cL [48] 0=0:=rfl;omega
theorem y5 (n:Nat):∀ k,n<10 ^ (k+1)→(decDigits n).length≤k+1:=by
 induction n using Nat.strongRecOn with
 | _ n ih =>
  intro k hk;rw [decDigits];split
  ·simp
  ·rename_i h;cases k with
   | zero=>simp at hk; omega
   | succ k =>
    have:=ih (n / 10) (by omega) k (by rw [Nat.div_lt_iff_lt_mul (by omega)]; rwa [Nat.pow_succ] at hk);simp; omega
theorem zH {n:Nat} (h:n<1000000000):sJ (decDigits n)=n:=by
 unfold sJ;rw [if_neg,yF];rintro (h1 | h1 | ⟨h1,h2⟩)
 ·exact Ca n h1
 ·have:=y5 n 8 (by simpa using h); omega
 ·exact h2 (HI n h1)
theorem EZ {α:Type} (l:List α):l=[]∨∃ r c,l=r++[c]:=by
 rcases List.eq_nil_or_concat l with h | ⟨r,c,h⟩
 ·exact .inl h
 ·exact .inr ⟨r,c,by simpa using h⟩
theorem uk:∀ (l:List UInt8) (n:Nat) (c:UInt8),cL l n = -1→cL (l++[c]) n = -1
 | [],n,c,h=>by simp [cL] at h
 | d::r,n,c,h=>by
  show cL (d::(r++[c])) n=_;unfold cL at h ⊢;split
  ·rename_i hd;rw [if_pos hd] at h;exact uk r _ c h
  ·rfl
theorem Dj:∀ (k:Nat) (l:List UInt8) (n:Nat),l.length≤k→l≠[]→(l.getD 0 0=48→l=[48])→cL l 0=n→decDigits n=l:=by
 intro k
 induction k with
 | zero=>intro l n hk h1 _ _; exact absurd (yN (by omega)) h1
 | succ k ih =>
  intro l n hk h1 h2 h3;rcases EZ l with rfl | ⟨r,c,rfl⟩
  ·exact absurd rfl h1
  ·cases hr:r with
   | nil =>
    subst hr;simp only [AI,cL] at h3 ⊢;split at h3
    ·rename_i hd;have hc:48≤c.toNat∧c.toNat≤57:=by simpa [Cb] using hd
     have hn:n=c.toNat-48:=by omega
     rw [decDigits,dif_pos (by omega),hn,show 48+(c.toNat-48)=c.toNat by omega,UInt8.ofNat_toNat]
    ·omega
   | cons a r' =>
    rw [← hr];rcases wt r 0 with h | h
    ·rw [uk r 0 c h] at h3; omega
    ·obtain⟨m,hm⟩:∃ m:Nat,cL r 0=m:=⟨(cL r 0).toNat,by omega⟩;rw [rK r 0 m c hm] at h3;split at h3
     ·rename_i hd;have hc:48≤c.toNat∧c.toNat≤57:=by simpa [Cb] using hd
      have ha:r.getD 0 0≠48:=by
       intro e;have:=h2 (by rw [hr] at e ⊢; simpa using e);rw [hr] at this; simp at this
      have hrec:=ih r m (by simp at hk; omega) (by rw [hr]; simp) (fun e=>absurd e ha) hm;have hm0:1≤m:=by
       rcases yr m with e | e
       ·subst e;rw [decDigits,dif_pos (by omega)] at hrec;rw [← hrec] at ha;exact absurd rfl ha
       ·exact e
      rw [decDigits,dif_neg (by omega),show n / 10=m by omega,hrec,show n % 10=c.toNat-48 by omega,show 48+(c.toNat-48)=c.toNat by omega,UInt8.ofNat_toNat]
     ·omega
theorem L5 {l:List UInt8} {n:Nat} (h:sJ l=n):decDigits n=l∧n<1000000000:=by
 unfold sJ at h;split at h
 ·omega
 ·rename_i hc;have h1:l≠[]:=fun e=>hc (.inl e);have h2:l.length≤9:=by
   rcases kP 9 l.length with e | e
   ·exact absurd (.inr (.inl e)) hc
   ·exact e
  have h3:l.getD 0 0=48→l=[48]:=fun e=>Classical.byContradiction fun e2=>hc (.inr (.inr ⟨e,e2⟩));refine⟨Dj 9 l n h2 h1 h3 h,?_⟩;have:=zG l 0;have hp:(10:Nat) ^ l.length≤10 ^ 9:=CW (by omega) h2;have hq:((10:Int) ^ l.length)=((10 ^ l.length:Nat):Int):=by simp
  rw [h,hq] at this;simp only [Int.natCast_zero,Int.zero_add,Int.one_mul] at this;have:(10:Nat) ^ 9=1000000000:=rfl;omega
theorem Fy (l:List UInt8) : -1≤sJ l:=by
 unfold sJ;split
 ·omega
 ·rcases wt l 0 with h | h <;> omega
theorem BG:∀ (l:List UInt8) (a m:Nat) (c:UInt8),parseUint10 a l = .ok m→m<1000000000000→Cb c=true→parseUint10 a (l++[c]) = .ok (10*m+(c.toNat-48))
 | [],a,m,c,h,hm,hc=>by
  simp only [parseUint10] at h;injection h with h;subst h;have hc':48≤c.toNat∧c.toNat≤57:=by simpa [Cb] using hc
  simp only [AI,parseUint10];rw [if_pos hc',if_neg (by omega),if_neg (by omega)];congr 1; omega
 | d::r,a,m,c,h,hm,hc=>by
  show parseUint10 a (d::(r++[c]))=_;unfold parseUint10 at h ⊢;split at h
  ·rename_i hd;rw [if_pos hd];split at h
   ·cases h
   ·rename_i h2;rw [if_neg h2];split at h
    ·cases h
    ·rename_i h3;rw [if_neg h3];exact BG r _ m c h hm hc
  ·cases h
theorem GQ (n:Nat) (h:n<1000000000000):parseUint10 0 (decDigits n) = .ok n:=by
 induction n using Nat.strongRecOn with
 | _ n ih =>
  rw [decDigits];split
  ·rename_i h;simp only [parseUint10,xU h];rw [if_pos (by omega),if_neg (by omega),if_neg (by omega)];congr 1; omega
  ·rename_i h;rw [BG _ 0 (n / 10) _ (ih (n / 10) (by omega) (by omega)) (by omega) (Cc (by omega)),xU (by omega)];congr 1; omega
theorem JN (n:Nat):48≤((decDigits n).getD 0 0).toNat:=by
 induction n using Nat.strongRecOn with
 | _ n ih =>
  rw [decDigits];split
  ·rename_i h;simp only [List.getD_cons_zero];rw [xU h]; omega
  ·rename_i h;have hne:=Ca (n / 10);have:=ih (n / 10) (by omega);cases hd:decDigits (n / 10) with
   | nil=>exact absurd hd hne
   | cons a r=>rw [hd] at this; simpa using this
theorem zo {n:Nat} (h:n<1000000000):atoiAll (decDigits n) = .ok (n:Int):=by
 have h1:=GQ n (by omega);have h2:=JN n;have h3:=Ca n;cases hd:decDigits n with
 | nil=>exact absurd hd h3
 | cons c r =>
  rw [hd] at h1 h2;simp only [List.getD_cons_zero] at h2;have h45:¬ (c.toNat=43∨c.toNat=45):=by omega
  have h46:¬ c.toNat=45:=by omega
  simp only [atoiAll,if_neg h45,parseMag,if_neg (List.cons_ne_nil c r),h1];rw [if_neg (by omega),if_neg (by omega),if_neg h46]
def A6 (M:Nat) (l:List UInt8):Int:=if sJ l≤M then sJ l else -1
theorem GO (M:Nat) (hM:M<1000000000) (l:List UInt8):A6 M l=match atoiAll l with
  | .ok v=>if v<0∨(M:Int)<v then -1 else if itoa v=l then v else -1
  | _=>-1:=by
 have key:∀ n:Nat,sJ l=n→n≤M→A6 M l=n∧atoiAll l = .ok (n:Int)∧itoa (n:Int)=l:=fun n h1 h2=>by
  obtain⟨h3,h4⟩:=L5 h1;refine⟨by unfold A6; rw [h1,if_pos (by omega)],by rw [← h3]; exact zo h4,by unfold itoa; rw [if_neg (by omega)]; simpa using h3⟩
 have hge:=Fy l;by_cases hc:0≤sJ l∧sJ l≤M
 ·obtain⟨n,hn⟩:∃ n:Nat,sJ l=n:=⟨(sJ l).toNat,by omega⟩;obtain⟨k1,k2,k3⟩:=key n hn (by omega);rw [k1,k2];simp only;rw [if_neg (by omega),if_pos k3]
 ·have hl:A6 M l = -1:=by
   unfold A6;split
   ·omega
   ·rfl
  rw [hl];cases ha:atoiAll l
  ·rename_i v;simp only;split
   ·rfl
   ·rename_i hv;split
    ·rename_i hi;exfalso;have hv0:0≤v∧v≤M:=by omega
     obtain⟨n,rfl⟩:∃ n:Nat,v=n:=⟨v.toNat,by omega⟩;unfold itoa at hi;rw [if_neg (by omega)] at hi;simp only [tH] at hi;have:=zH (n:=n) (by omega);rw [hi] at this;omega
    ·rfl
  ·rfl
  ·rfl
end
end Go.Proofs.YtmfcloapbgfhaaaGreatDoor
section
namespace Go.Proofs
open Go.Shelf
def Tryz.lays106_ren:Go.Shelf.Ren:=⟨fun | 106=>80 | 213=>116 | 265=>147 | n=>n,fun | 9=>9 | 3=>3 | n=>n,fun | n=>n⟩
theorem Tryz.lays106:Go.Proofs.Lays.n106 Tryz.prog Tryz.lays106_ren:={
 mixed:=by kernel_rfl
 f106:=Tryz.func80.trans (congrArg some (by kernel_rfl))
 f213:=Tryz.func116.trans (congrArg some (by kernel_rfl))
 f265:=Tryz.func147.trans (congrArg some (by kernel_rfl))
 t3:=Tryz.underlying3
 a3:=Tryz.isAgg3
 z3:=Tryz.sizeOf3
 v3:=Tryz.zeroValue3
 t9:=Tryz.underlying9
 a9:=Tryz.isAgg9
 z9:=Tryz.sizeOf9
 v9:=Tryz.zeroValue9 }
open Go.RowKit in
theorem Tryz.strings_Compare (a b:ByteArray) (w:World) :
  Calls Tryz.prog 80 #[.string a,.string b] w fun e w'=>e = .returned (.int .i64 (Lib.compareBytes a.data.toList b.data.toList))∧w'=w:=Any.strings_Compare Tryz.lays106 a b w
def Tryz.lays122_ren:Go.Shelf.Ren:=⟨fun | 122=>98 | 215=>135 | n=>n,fun | 3=>3 | 4=>4 | n=>n,fun | n=>n⟩
theorem Tryz.lays122:Go.Proofs.Lays.n122 Tryz.prog Tryz.lays122_ren:={
 mixed:=by kernel_rfl
 f122:=Tryz.func98.trans (congrArg some (by kernel_rfl))
 f215:=Tryz.func135.trans (congrArg some (by kernel_rfl))
 t3:=Tryz.underlying3
 a3:=Tryz.isAgg3
 z3:=Tryz.sizeOf3
 v3:=Tryz.zeroValue3
 t4:=Tryz.underlying4
 a4:=Tryz.isAgg4
 z4:=Tryz.sizeOf4
 v4:=Tryz.zeroValue4 }
open Go.RowKit in
theorem Tryz.cmp_Compare_int (x y:Int) (w:World) :
  Calls Tryz.prog 98 #[.int .i64 x,.int .i64 y] w fun e w'=>e = .returned (.int .i64 (Lib.compareInt x y))∧w'=w:=Any.cmp_Compare_int Tryz.lays122 x y w
def Tryz.laysM171_ren:Go.Shelf.Ren:=⟨fun | 171=>43 | 243=>77 | 246=>114 | 283=>143 | 284=>144 | 285=>145 | 286=>146 | 129=>175 | 317=>176 | 318=>177 | 319=>178 | 320=>179 | 337=>197 | 338=>198 | n=>n,fun | 3=>3 | 9=>9 | 2=>2 | 4=>4 | 171=>177 | 0=>0 | 53=>178 | 37=>55 | 5=>5 | 173=>181 | 212=>213 | 51=>211 | 20=>20 | 213=>214 | 46=>146 | 232=>246 | 233=>247 | n=>n,fun | 17=>1 | 18=>4 | 19=>5 | n=>n⟩
theorem Tryz.laysM171:Go.Proofs.LaysM.n171 Tryz.prog Tryz.laysM171_ren:={
 mixed:=by kernel_rfl
 f129:=Tryz.func175.trans (congrArg some (by kernel_rfl))
 f171:=Tryz.func43.trans (congrArg some (by kernel_rfl))
 f243:=Tryz.func77.trans (congrArg some (by kernel_rfl))
 f246:=Tryz.func114.trans (congrArg some (by kernel_rfl))
 f283:=Tryz.func143.trans (congrArg some (by kernel_rfl))
 f284:=Tryz.func144.trans (congrArg some (by kernel_rfl))
 f285:=Tryz.func145.trans (congrArg some (by kernel_rfl))
 f286:=Tryz.func146.trans (congrArg some (by kernel_rfl))
 f317:=Tryz.func176.trans (congrArg some (by kernel_rfl))
 f318:=Tryz.func177.trans (congrArg some (by kernel_rfl))
 f319:=Tryz.func178.trans (congrArg some (by kernel_rfl))
 f320:=Tryz.func179.trans (congrArg some (by kernel_rfl))
 f337:=Tryz.func197.trans (congrArg some (by kernel_rfl))
 f338:=Tryz.func198.trans (congrArg some (by kernel_rfl))
 t0:=Tryz.underlying0
 a0:=Tryz.isAgg0
 z0:=Tryz.sizeOf0
 v0:=Tryz.zeroValue0
 t2:=Tryz.underlying2
 a2:=Tryz.isAgg2
 z2:=Tryz.sizeOf2
 v2:=Tryz.zeroValue2
 t3:=Tryz.underlying3
 a3:=Tryz.isAgg3
 z3:=Tryz.sizeOf3
 v3:=Tryz.zeroValue3
 t4:=Tryz.underlying4
 a4:=Tryz.isAgg4
 z4:=Tryz.sizeOf4
 v4:=Tryz.zeroValue4
 t5:=Tryz.underlying5
 a5:=Tryz.isAgg5
 z5:=Tryz.sizeOf5
 v5:=Tryz.zeroValue5
 t9:=Tryz.underlying9
 a9:=Tryz.isAgg9
 z9:=Tryz.sizeOf9
 v9:=Tryz.zeroValue9
 t20:=Tryz.underlying20
 a20:=Tryz.isAgg20
 z20:=Tryz.sizeOf20
 v20:=Tryz.zeroValue20
 t37:=Tryz.underlying55
 a37:=Tryz.isAgg55
 z37:=Tryz.sizeOf55
 v37:=Tryz.zeroValue55
 t46:=Tryz.underlying146
 a46:=Tryz.isAgg146
 z46:=Tryz.sizeOf146
 v46:=Tryz.zeroValue146
 t51:=Tryz.underlying211
 a51:=Tryz.isAgg211
 z51:=Tryz.sizeOf211
 v51:=Tryz.zeroValue211
 t53:=Tryz.underlying178
 a53:=Tryz.isAgg178
 z53:=Tryz.sizeOf178
 v53:=Tryz.zeroValue178
 t171:=Tryz.underlying177
 a171:=Tryz.isAgg177
 z171:=Tryz.sizeOf177
 v171:=Tryz.zeroValue177
 t173:=Tryz.underlying181
 a173:=Tryz.isAgg181
 z173:=Tryz.sizeOf181
 v173:=Tryz.zeroValue181
 t212:=Tryz.underlying213
 a212:=Tryz.isAgg213
 z212:=Tryz.sizeOf213
 v212:=Tryz.zeroValue213
 t213:=Tryz.underlying214
 a213:=Tryz.isAgg214
 z213:=Tryz.sizeOf214
 t232:=Tryz.underlying246
 a232:=Tryz.isAgg246
 z232:=Tryz.sizeOf246
 v232:=Tryz.zeroValue246
 t233:=Tryz.underlying247
 a233:=Tryz.isAgg247
 z233:=Tryz.sizeOf247
 v233:=Tryz.zeroValue247
 g17:=by kernel_rfl
 g18:=by kernel_rfl
 g19:=by kernel_rfl
 i0:=by kernel_rfl
 i2:=by kernel_rfl
 i3:=by kernel_rfl
 i4:=by kernel_rfl
 i5:=by kernel_rfl
 i9:=by kernel_rfl
 i20:=by kernel_rfl
 i37:=by kernel_rfl
 i46:=by kernel_rfl
 i51:=by kernel_rfl
 i53:=by kernel_rfl
 i171:=by kernel_rfl
 i173:=by kernel_rfl
 i212:=by kernel_rfl
 i232:=by kernel_rfl
 i233:=by kernel_rfl
 m17:=by kernel_rfl
 m18:=by kernel_rfl
 m19:=by kernel_rfl }
open Go.RowKit Go.Sort Go.Lib in
theorem Tryz.strconv_Itoa (n : Int) (h0 : -9223372036854775808 ≤ n) (h1 : n ≤ 9223372036854775807) (w : World) (htab : Lib.TabIs Tryz.prog w "internal/strconv.uint64pow10" .u64 Lib.pow10Tab) :
  Calls Tryz.prog 43 #[.int .i64 n] w fun e w'=>e = .returned (.string ⟨(Lib.itoa n).toArray⟩)∧∃ k os,w'=grow (w.drewN k) os:=Any.strconv_Itoa Tryz.laysM171 n h0 h1 w htab
def Tryz.laysC172_ren:Go.Shelf.Ren:=⟨fun | 172=>136 | 244=>163 | 245=>164 | 247=>187 | 279=>188 | 280=>189 | 281=>190 | 282=>191 | 287=>203 | 316=>204 | 171=>43 | 205=>205 | 321=>237 | 322=>238 | 243=>77 | 246=>114 | 283=>143 | 284=>144 | 285=>145 | 286=>146 | 129=>175 | 317=>176 | 318=>177 | 319=>178 | 320=>179 | 337=>197 | 338=>198 | n=>n,fun | 9=>9 | 3=>3 | 75=>169 | 76=>170 | 4=>4 | 5=>5 | 167=>222 | 37=>55 | 0=>0 | 85=>223 | 2=>2 | 168=>225 | 53=>178 | 175=>238 | 46=>146 | 210=>242 | 127=>288 | 145=>291 | 143=>289 | 21=>21 | 171=>177 | 173=>181 | 212=>213 | 51=>211 | 20=>20 | 213=>214 | 232=>246 | 233=>247 | 80=>285 | n=>n,fun | 15=>2 | 16=>3 | 17=>1 | 18=>4 | 19=>5 | n=>n⟩
theorem Tryz.laysC172:Go.Proofs.LaysC.n172 Tryz.prog Tryz.laysC172_ren:={
 mixed:=by kernel_rfl
 f129:=Tryz.func175.trans (congrArg some (by kernel_rfl))
 f171:=Tryz.func43.trans (congrArg some (by kernel_rfl))
 f172:=Tryz.func136.trans (congrArg some (by kernel_rfl))
 f205:=Tryz.func205.trans (congrArg some (by kernel_rfl))
 f243:=Tryz.func77.trans (congrArg some (by kernel_rfl))
 f244:=Tryz.func163.trans (congrArg some (by kernel_rfl))
 f245:=Tryz.func164.trans (congrArg some (by kernel_rfl))
 f246:=Tryz.func114.trans (congrArg some (by kernel_rfl))
 f247:=Tryz.func187.trans (congrArg some (by kernel_rfl))
 f279:=Tryz.func188.trans (congrArg some (by kernel_rfl))
 f280:=Tryz.func189.trans (congrArg some (by kernel_rfl))
 f281:=Tryz.func190.trans (congrArg some (by kernel_rfl))
 f282:=Tryz.func191.trans (congrArg some (by kernel_rfl))
 f283:=Tryz.func143.trans (congrArg some (by kernel_rfl))
 f284:=Tryz.func144.trans (congrArg some (by kernel_rfl))
 f285:=Tryz.func145.trans (congrArg some (by kernel_rfl))
 f286:=Tryz.func146.trans (congrArg some (by kernel_rfl))
 f287:=Tryz.func203.trans (congrArg some (by kernel_rfl))
 f316:=Tryz.func204.trans (congrArg some (by kernel_rfl))
 f317:=Tryz.func176.trans (congrArg some (by kernel_rfl))
 f318:=Tryz.func177.trans (congrArg some (by kernel_rfl))
 f319:=Tryz.func178.trans (congrArg some (by kernel_rfl))
 f320:=Tryz.func179.trans (congrArg some (by kernel_rfl))
 f321:=Tryz.func237.trans (congrArg some (by kernel_rfl))
 f322:=Tryz.func238.trans (congrArg some (by kernel_rfl))
 f337:=Tryz.func197.trans (congrArg some (by kernel_rfl))
 f338:=Tryz.func198.trans (congrArg some (by kernel_rfl))
 t0:=Tryz.underlying0
 a0:=Tryz.isAgg0
 z0:=Tryz.sizeOf0
 v0:=Tryz.zeroValue0
 t2:=Tryz.underlying2
 a2:=Tryz.isAgg2
 z2:=Tryz.sizeOf2
 v2:=Tryz.zeroValue2
 t3:=Tryz.underlying3
 a3:=Tryz.isAgg3
 z3:=Tryz.sizeOf3
 v3:=Tryz.zeroValue3
 t4:=Tryz.underlying4
 a4:=Tryz.isAgg4
 z4:=Tryz.sizeOf4
 v4:=Tryz.zeroValue4
 t5:=Tryz.underlying5
 a5:=Tryz.isAgg5
 z5:=Tryz.sizeOf5
 v5:=Tryz.zeroValue5
 t9:=Tryz.underlying9
 a9:=Tryz.isAgg9
 z9:=Tryz.sizeOf9
 v9:=Tryz.zeroValue9
 t20:=Tryz.underlying20
 a20:=Tryz.isAgg20
 z20:=Tryz.sizeOf20
 v20:=Tryz.zeroValue20
 t21:=Tryz.underlying21
 a21:=Tryz.isAgg21
 z21:=Tryz.sizeOf21
 v21:=Tryz.zeroValue21
 t37:=Tryz.underlying55
 a37:=Tryz.isAgg55
 z37:=Tryz.sizeOf55
 v37:=Tryz.zeroValue55
 t46:=Tryz.underlying146
 a46:=Tryz.isAgg146
 z46:=Tryz.sizeOf146
 v46:=Tryz.zeroValue146
 t51:=Tryz.underlying211
 a51:=Tryz.isAgg211
 z51:=Tryz.sizeOf211
 v51:=Tryz.zeroValue211
 t53:=Tryz.underlying178
 a53:=Tryz.isAgg178
 z53:=Tryz.sizeOf178
 v53:=Tryz.zeroValue178
 t75:=Tryz.underlying169
 a75:=Tryz.isAgg169
 z75:=Tryz.sizeOf169
 v75:=Tryz.zeroValue169
 t76:=Tryz.underlying170
 a76:=Tryz.isAgg170
 z76:=Tryz.sizeOf170
 v76:=Tryz.zeroValue170
 t85:=Tryz.underlying223
 a85:=Tryz.isAgg223
 z85:=Tryz.sizeOf223
 v85:=Tryz.zeroValue223
 t127:=Tryz.underlying288
 a127:=Tryz.isAgg288
 z127:=Tryz.sizeOf288
 v127:=Tryz.zeroValue288
 t143:=Tryz.underlying289
 a143:=Tryz.isAgg289
 z143:=Tryz.sizeOf289
 v143:=Tryz.zeroValue289
 t145:=Tryz.underlying291
 a145:=Tryz.isAgg291
 z145:=Tryz.sizeOf291
 v145:=Tryz.zeroValue291
 t167:=Tryz.underlying222
 a167:=Tryz.isAgg222
 z167:=Tryz.sizeOf222
 v167:=Tryz.zeroValue222
 t168:=Tryz.underlying225
 a168:=Tryz.isAgg225
 z168:=Tryz.sizeOf225
 v168:=Tryz.zeroValue225
 t171:=Tryz.underlying177
 a171:=Tryz.isAgg177
 z171:=Tryz.sizeOf177
 v171:=Tryz.zeroValue177
 t173:=Tryz.underlying181
 a173:=Tryz.isAgg181
 z173:=Tryz.sizeOf181
 v173:=Tryz.zeroValue181
 t175:=Tryz.underlying238
 a175:=Tryz.isAgg238
 z175:=Tryz.sizeOf238
 v175:=Tryz.zeroValue238
 t210:=Tryz.underlying242
 a210:=Tryz.isAgg242
 z210:=Tryz.sizeOf242
 v210:=Tryz.zeroValue242
 t212:=Tryz.underlying213
 a212:=Tryz.isAgg213
 z212:=Tryz.sizeOf213
 v212:=Tryz.zeroValue213
 t213:=Tryz.underlying214
 a213:=Tryz.isAgg214
 z213:=Tryz.sizeOf214
 t232:=Tryz.underlying246
 a232:=Tryz.isAgg246
 z232:=Tryz.sizeOf246
 v232:=Tryz.zeroValue246
 t233:=Tryz.underlying247
 a233:=Tryz.isAgg247
 z233:=Tryz.sizeOf247
 v233:=Tryz.zeroValue247
 g15:=by kernel_rfl
 g16:=by kernel_rfl
 g17:=by kernel_rfl
 g18:=by kernel_rfl
 g19:=by kernel_rfl
 t80:=Tryz.underlying285
 a80:=Tryz.isAgg285
 z80:=Tryz.sizeOf285
 v80:=Tryz.zeroValue285
 i0:=by kernel_rfl
 i2:=by kernel_rfl
 i3:=by kernel_rfl
 i4:=by kernel_rfl
 i5:=by kernel_rfl
 i9:=by kernel_rfl
 i20:=by kernel_rfl
 i21:=by kernel_rfl
 i37:=by kernel_rfl
 i46:=by kernel_rfl
 i51:=by kernel_rfl
 i53:=by kernel_rfl
 i75:=by kernel_rfl
 i76:=by kernel_rfl
 i80:=by kernel_rfl
 i85:=by kernel_rfl
 i127:=by kernel_rfl
 i143:=by kernel_rfl
 i145:=by kernel_rfl
 i167:=by kernel_rfl
 i168:=by kernel_rfl
 i171:=by kernel_rfl
 i173:=by kernel_rfl
 i175:=by kernel_rfl
 i210:=by kernel_rfl
 i212:=by kernel_rfl
 i232:=by kernel_rfl
 i233:=by kernel_rfl
 m15:=by kernel_rfl
 m16:=by kernel_rfl
 m17:=by kernel_rfl
 m18:=by kernel_rfl
 m19:=by kernel_rfl
 c0:=by kernel_rfl
 c2:=by kernel_rfl
 c3:=by kernel_rfl
 c4:=by kernel_rfl
 c5:=by kernel_rfl
 c9:=by kernel_rfl
 c20:=by kernel_rfl
 c21:=by kernel_rfl
 c37:=by kernel_rfl
 c46:=by kernel_rfl
 c51:=by kernel_rfl
 c53:=by kernel_rfl
 c75:=by kernel_rfl
 c76:=by kernel_rfl
 c80:=by kernel_rfl
 c85:=by kernel_rfl
 c127:=by kernel_rfl
 c143:=by kernel_rfl
 c145:=by kernel_rfl
 c167:=by kernel_rfl
 c168:=by kernel_rfl
 c171:=by kernel_rfl
 c173:=by kernel_rfl
 c175:=by kernel_rfl
 c210:=by kernel_rfl
 c212:=by kernel_rfl
 c213:=by kernel_rfl
 c232:=by kernel_rfl
 c233:=by kernel_rfl }
open Go.RowKit in
theorem Tryz.strconv_Atoi_ok (s:ByteArray) (hmax:s.size≤9223372036854775806) (v:Int) (h:Lib.atoiAll s.data.toList = .ok v) (w:World) :
  Calls Tryz.prog 136 #[.string s] w fun e w'=>e = .returned (.tuple #[.int .i64 v,.nilIface])∧(w'=w∨∃ t,w'=Lib.bytesWorld w 5 t):=Any.strconv_Atoi_ok Tryz.laysC172 s hmax v h w
open Go.RowKit in
theorem Tryz.strconv_Atoi_syntax (s:ByteArray) (hlim:s.size≤281474976710656) (h:(∀ z,Lib.atoiAll s.data.toList ≠ .ok z)∧Lib.atoiAll s.data.toList ≠ .range) (ev:Value) (w:World) (hv:w.cell? ⟨2,0,none⟩=some ev) (hev:ev = .nilIface∨∃ te pe,ev = .iface te pe) :
  Calls Tryz.prog 136 #[.string s] w fun e w'=>∃ N,e = .returned (.tuple #[.int .i64 (0),.iface 225 (.pointer (some ⟨N,0,none⟩))])∧w.heap.size≤N∧w'.heap[N]? = some (.cells #[.string ⟨#[65,116,111,105]⟩,.string s,ev] 242 (0,0))∧Below w.heap.size w w':=Any.strconv_Atoi_syntax Tryz.laysC172 s hlim (by cases hx:Lib.atoiAll s.data.toList <;> first | rfl | exact absurd hx (h.1 _) | exact absurd hx h.2) ev w hv hev
open Go.RowKit in
theorem Tryz.strconv_Atoi_range (s:ByteArray) (hlim:s.size≤281474976710656) (h:Lib.atoiAll s.data.toList = .range) (ev:Value) (w:World) (hv:w.cell? ⟨3,0,none⟩=some ev) (hev:ev = .nilIface∨∃ te pe,ev = .iface te pe) :
  Calls Tryz.prog 136 #[.string s] w fun e w'=>∃ N,e = .returned (.tuple #[.int .i64 (Lib.atoiSat s.data.toList),.iface 225 (.pointer (some ⟨N,0,none⟩))])∧w.heap.size≤N∧w'.heap[N]? = some (.cells #[.string ⟨#[65,116,111,105]⟩,.string s,ev] 242 (0,0))∧Below w.heap.size w w':=Any.strconv_Atoi_range Tryz.laysC172 s hlim h ev w hv hev
end Go.Proofs
end
namespace Go.Proofs.YtmfcloapbgfhaaaGreatDoor
section
open Go.RowKit
open Go.Lib hiding intOf
structure Lv (w:World):Prop where
 sy:∃ ev,w.cell? ⟨2,0,none⟩=some ev∧(ev = .nilIface∨∃ te pe,ev = .iface te pe)
 ra:∃ ev,w.cell? ⟨3,0,none⟩=some ev∧(ev = .nilIface∨∃ te pe,ev = .iface te pe)
 tab : TabIs aP w "internal/strconv.uint64pow10" .u64 pow10Tab
def Qe (k:Nat):Prop:=k=2∨k=3∨k=1
def di (T:Nat→Prop) (w:World):Prop:=Lv w∧∀ k,Qe k→¬ T k∧k<w.heap.size
theorem Lv.keep {w w':World} (h:Lv w) (hk:∀ k,Qe k→w'.heap[k]? = w.heap[k]?):Lv w':=by
 obtain⟨⟨e1, h1, h2⟩, ⟨e3, h3, h4⟩, h5⟩ := h;refine⟨⟨e1, (World.cell?_of_block (w := w) (hk _ (.inl rfl))).trans h1, h2⟩, ⟨e3, (World.cell?_of_block (w := w) (hk _ (.inr (.inl rfl)))).trans h3, h4⟩, ?_⟩;have hg : Tryz.prog.globalNamed "internal/strconv.uint64pow10" = some 1 := by kernel_rfl
 unfold TabIs World.var? at *;simp only [hg,ax] at h5 ⊢;rw [hk _ (.inr (.inr rfl))]; exact h5
def bC:cA:=⟨di,fun {T T' w w'} h k n=>⟨h.1.keep fun j hj=>k.block j (h.2 j hj).2 (h.2 j hj).1,fun j hj=>⟨fun ht=>by
 rcases n j ht with h1 | h1
 ·exact (h.2 j hj).1 h1
 ·have:=(h.2 j hj).2; omega,xG (h.2 j hj).2 k.size⟩⟩⟩
theorem di.dn {T:Nat→Prop} {w:World} (h:di T w):di (dT T []) w:=bC.keep h (au _ _) (Q5 w)
theorem Lv.here {w:World} (h:Lv w):di No w:=by
 refine⟨h,fun k hk=>⟨fun h=>h,?_⟩⟩;obtain⟨⟨e1,h1,h2⟩,⟨e3,h3,h4⟩,h5⟩:=h;rcases hk with rfl | rfl | rfl
 ·exact World.block_lt_of_cell? _ _ h1
 ·exact World.block_lt_of_cell? _ _ h3
 ·have hg : Tryz.prog.globalNamed "internal/strconv.uint64pow10" = some 1 := by kernel_rfl
  unfold TabIs World.var? at h5;simp only [hg,ax] at h5;rcases kP 1 w.heap.size with h | h
  ·exact h
  ·rw [F6 h] at h5; cases h5
def MI (n:Int):Bool:=decide (-9223372036854775808≤n)&&decide (n≤9223372036854775807)
def cZ (n:Int):ByteArray:=⟨(itoa n).toArray⟩
theorem pj (n:Int):(cZ n).toList=itoa n:=by rw [cZ,ByteArray.toList_eq]
def w6 (n:Int):Option ByteArray:=gd (MI n) (some (cZ n))
theorem J9 (w:World) (k:Nat) (os:Array Obj):Kt No w (Go.Sort.grow (w.drewN k) os) :=
 ⟨rfl,rfl,rfl,by show w.heap.size≤(w.heap++os).size; simp,fun j hj _=>by show (w.heap++os)[j]? = _; rw [Fe hj]⟩
theorem y8 (T:Nat→Prop) (W0:World) (hT:∀ k,T k→k<W0.heap.size) (hLv:di T W0) (n:Int) (y:ByteArray) (hM:w6 n=some y):bj aP No 43 [.int .i64 n] W0 fun v w'=>v = .string y:=by
 unfold w6 at hM;obtain⟨h1,h2⟩:=be hM;injection h2 with h2;subst h2;unfold MI at h1;simp only [so,decide_eq_true_eq] at h1;refine Calls.mono (Tryz.strconv_Itoa n h1.1 h1.2 W0 hLv.1.tab) ?_;rintro e w' ⟨rfl,k,os,rfl⟩;exact⟨_,rfl,J9 _ _ _,rfl⟩
def wS (s:ByteArray):Option (Int×Bool):=gd (Nat.ble s.size 140737488355328) (some (match atoiAll s.toList with
 | .ok v=>(v,false)
 | .range=>(atoiSat s.toList,true)
 | _=>(0,true)))
theorem Jv (T:Nat→Prop) (W0:World) (hT:∀ k,T k→k<W0.heap.size) (hLv:di T W0) (s:ByteArray) (y:Int×Bool) (hM:wS s=some y):bj aP No 136 [.string s] W0 fun v w'=>∃ er,v = .tuple #[.int .i64 y.1,er]∧KI er y.2:=by
 unfold wS at hM;obtain⟨h1,h2⟩:=be hM;have hs:=o4 h1;injection h2 with h2;subst h2;have hl:s.data.toList=s.toList:=(ByteArray.toList_eq s).symm;cases h:atoiAll s.toList
 ·rename_i v;refine Calls.mono (Tryz.strconv_Atoi_ok s (by omega) v (by rw [hl]; exact h) W0) ?_;rintro e w' ⟨rfl,hw⟩;refine⟨_,rfl,?_,.nilIface,rfl,.inl ⟨rfl,rfl⟩⟩;rcases hw with rfl | ⟨t,rfl⟩
  ·exact au _ _
  ·exact Kt.ofBelow (Go.Joins.below_bytesWorld _ _ _ _ (cX _))
 ·obtain⟨ev,h1,h2⟩:=hLv.1.sy;refine Calls.mono (Tryz.strconv_Atoi_syntax s (by omega) (by rw [hl,h]; exact⟨(fun _ h=>nomatch h),(fun h=>nomatch h)⟩) ev W0 h1 h2) ?_;rintro e w' ⟨N,rfl,_,_,hb⟩;exact⟨_,rfl,Kt.ofBelow hb,_,rfl,.inr ⟨rfl,_,_,rfl⟩⟩
 ·obtain⟨ev,h1,h2⟩:=hLv.1.ra;refine Calls.mono (Tryz.strconv_Atoi_range s (by omega) (by rw [hl]; exact h) ev W0 h1 h2) ?_;rintro e w' ⟨N,rfl,_,_,hb⟩;rw [hl];exact⟨_,rfl,Kt.ofBelow hb,_,rfl,.inr ⟨rfl,_,_,rfl⟩⟩
end
section
open Go.RowKit
theorem ro {σ ρ:Type} {B:σ→Option (Fl σ ρ)} (I:Nat→σ→Prop) (post:ρ→Prop) (N:Nat)
  (hs:∀ k s,k<N→I k s→(∃ s',B s=some (.go s')∧I (k+1) s')∨∃ r,B s=some (.out r)∧post r) (he:∀ s,I N s→∃ r,B s=some (.out r)∧post r) {s:σ} (h0:I 0 s):∃ r,loop B s=some r∧post r:=by
 have key:∀ (m k:Nat) (s:σ),k+m=N→I k s→∃ r,loop B s=some r∧post r:=by
  intro m
  induction m with
  | zero =>
   intro k s hk hI;obtain rfl:k=N:=by omega
   obtain⟨r,h1,h2⟩:=he s hI;exact⟨r,qh h1,h2⟩
  | succ m ih =>
   intro k s hk hI;rcases hs k s (by omega) hI with⟨s',h1,h2⟩|⟨r,h1,h2⟩
   ·obtain⟨r,h3,h4⟩:=ih (k+1) s' (by omega) h2;exact⟨r,(Cw h1).trans h3,h4⟩
   ·exact⟨r,qh h1,h2⟩
 exact key N 0 s (by omega) h0
theorem za {σ ρ:Type} {B:σ→Option (Fl σ ρ)} (I:Nat→σ→Prop) (y:ρ) (N:Nat)
  (hs:∀ k s,k<N→I k s→(∃ s',B s=some (.go s')∧I (k+1) s')∨B s=some (.out y)) (he:∀ s,I N s→B s=some (.out y)) {s:σ} (h0:I 0 s):loop B s=some y:=by
 obtain⟨r,h1,rfl⟩:=ro I (fun r=>r=y) N (fun k s hk hI=>(hs k s hk hI).imp id fun h=>⟨y,h,rfl⟩) (fun s hI=>⟨y,he s hI,rfl⟩) h0;exact h1
theorem pX {z:Int} (h1 : -9223372036854775808≤z) (h2:z≤9223372036854775807):IntKind.i64.wrap z=z:=by rw [IntKind.wrap_i64]; omega
theorem bW {α:Type} {xs:List α} {k:Nat} (h:k<xs.length):bu xs (k:Int)=some xs[k]:=by
 unfold bu;simp [h]
theorem FW {α:Type} {xs:List α} {l h:Nat} (h1:l≤h) (h2:h≤xs.length):o0 xs (l:Int) (h:Int)=some ((xs.take h).drop l):=by
 unfold o0;rw [if_pos ⟨by omega,by omega,by omega⟩];simp
theorem dX {n:Nat} (h:n≤4294967296):bH n=true:=CY h
def Ok {α:Type} (m:Option α) (P:α→Prop):Prop:=∃ y,m=some y∧P y
section
variable {α β:Type} {m:Option α} {P Q:α→Prop} {R:β→Prop} {f:α→Option β} {b:Bool} {x y:Option α}
theorem ar {v:α} (h:P v):Ok (some v) P:=⟨v,rfl,h⟩
theorem aQ (h:Ok m Q) (k:∀ v,Q v→Ok (f v) R):Ok (m.bind f) R:=by
 obtain⟨v,rfl,hv⟩:=h;exact k v hv
theorem aM {v:α} (h:m=some v) (k:Ok (f v) R):Ok (m.bind f) R:=by rw [h]; exact k
theorem aF (ht:b=true→Ok x P) (hf:b=false→Ok y P):Ok (cond b x y) P:=by
 cases b
 ·exact hf rfl
 ·exact ht rfl
theorem dM (hb:b=true) (h:Ok x P):Ok (gd b x) P:=by subst hb; exact h
theorem Ok.mono (h:Ok m Q) (k:∀ v,Q v→P v):Ok m P:=by obtain⟨v,e,hv⟩:=h; exact⟨v,e,k v hv⟩
theorem wR {xs:List α} {i:Int} (h0:0≤i) (h1:i<xs.length) (k:∀ v,xs[i.toNat]? = some v→v∈xs→Ok (f v) R):Ok ((bu xs i).bind f) R:=by
 have hk:i.toNat<xs.length:=by omega
 have e:bu xs i=some xs[i.toNat]:=by
  have:=bW hk;rwa [Int.toNat_of_nonneg h0] at this
 rw [e];exact k _ (bS hk) (m7 hk)
theorem cc {σ ρ:Type} {B:σ→Option (Fl σ ρ)} {s:σ} {g:ρ→Option β} (I:Nat→σ→Prop) (post:ρ→Prop) (N:Nat) (h0:I 0 s)
  (hs:∀ k s,k≤N→I k s→Ok (B s) fun r=>match r with
   | .go s'=>k<N∧I (k+1) s'
   | .out r=>post r)
  (k:∀ r,post r→Ok (g r) R):Ok ((Go.Proofs.YtmfcloapbgfhaaaGreatDoor.loop B s).bind g) R:=by
 obtain⟨r,h1,h2⟩:=ro (B:=B) I post N (fun k s hk hI=>by
   obtain⟨y,e,hy⟩:=hs k s (by omega) hI;cases y with
   | go s'=>exact .inl ⟨s',e,hy.2⟩
   | out r=>exact .inr ⟨r,e,hy⟩) (fun s hI=>by
   obtain⟨y,e,hy⟩:=hs N s (cX _) hI;cases y with
   | go s'=>exact absurd hy.1 (by omega)
   | out r=>exact⟨r,e,hy⟩) h0
 rw [h1];exact k r h2
end
end
section
open Go.RowKit
open Go.Lib hiding intOf
theorem sx (s:ByteArray):s.data.toList=s.toList:=(ByteArray.toList_eq s).symm
def tj (a b:ByteArray):Option Int:=some (Lib.compareBytes a.toList b.toList)
theorem yE (T:Nat→Prop) (W0:World) (hT:∀ k,T k→k<W0.heap.size) (hLv:di T W0) (a b:ByteArray) (y:Int) (hM:tj a b=some y):bj aP No 80 [.string a,.string b] W0 fun v w'=>v = .int .i64 y:=by
 refine Calls.mono (Tryz.strings_Compare a b W0) ?_;rintro e w' ⟨rfl,rfl⟩;refine⟨_,rfl,au _ _,?_⟩;rw [sx,sx,← fq hM]
end
end Go.Proofs.YtmfcloapbgfhaaaGreatDoor
