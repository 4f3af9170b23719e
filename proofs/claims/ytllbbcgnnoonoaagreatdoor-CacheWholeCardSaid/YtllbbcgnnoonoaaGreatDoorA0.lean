/- Texts of the proof, joined (0). -/
import Derived.Test.YtllbbcgnnoonoaaGreatDoorProg
import Derived.WalkKit
import Derived.WalkSpells
import Derived.WalkLawsBesides
import Derived.BigQuiet
import Derived.Deep.QuietTactic
import Derived.Deep.CutBlock
import Derived.Deep.DeepCutAuto
import Derived.Laws.OwnMore
import Derived.Laws.IdiomCopy
import Derived.ArgAppend
import Derived.Deep.Draws
import Derived.RegionTactic
import Derived.Deep.RegionWith
import Derived.Deep.RegionHeld3
import Derived.Deep.RegionLaw
import Derived.Laws.Rows
import Derived.Laws.Tables
import Derived.Laws.CopyRow
import Derived.Laws.MakeOwn
import Derived.Great.BuildSlice
import Derived.Orders
import Derived.Laws.Small
import Derived.Laws.StructEq
import Derived.Laws.Cover3
import Derived.WideLaws
import Derived.Lib.AppendStr
import Derived.Lib.ConvBytes
import Derived.Laws.BytesString
import Derived.Lib.SmallJoins
import Derived.Lib.ItoaNum
import Derived.Lib.AtoiAll
import Derived.Shelf.Small.Bits
import Derived.Shelf.Small.Strs
import Derived.Shelf.Small.Wraps
import Derived.Shelf.Strconv.Atoi
import Derived.Shelf.Strconv.Itoa0
import Derived.Shelf.Strconv.Itoa1
import Derived.Shelf.LaysM
import Derived.Shelf.Strconv.Itoa2
import Derived.Shelf.Strconv.Itoa3
import Derived.Shelf.Strconv.AtoiErrFast
import Derived.Shelf.Strconv.ParseIntEmpty
import Derived.Shelf.Strconv.AtoiFail
import Derived.Shelf.Strconv.Clone
import Derived.Shelf.Strconv.SyntaxError
import Derived.Shelf.LaysC
import Derived.Shelf.Strconv.ToError
import Derived.Shelf.Strconv.Lower
import Derived.Shelf.Strconv.ParseUint10
import Derived.Shelf.Strconv.ParseUint10Empty
import Derived.Shelf.Strconv.ParseUint10Any
import Derived.Shelf.Strconv.ParseInt10
import Derived.Shelf.Strconv.AtoiLong
import Derived.Shelf.Strconv.AtoiInnerAll
import Derived.Shelf.Strconv.RangeError
import Derived.Shelf.Strconv.ToErrorRange
import Derived.Shelf.Strconv.AtoiAll
import Derived.Shelf.Strconv.ErrVarAll
import Derived.Lib.AppendIntMem
set_option linter.unusedVariables false
set_option linter.unusedSimpArgs false
set_option linter.unusedSectionVars false
namespace Go.Proofs.YtllbbcgnnoonoaaGreatDoor
section
open Go.RowKit
variable {a:World} {cs:Array Value} {g:Nat}
abbrev Po:=@Array.any_eq_true'
abbrev Rs:=@Array.getD_eq_getD_getElem?
abbrev Pp:=@Array.getElem?_append_left
abbrev xD:=@Array.getElem?_eq_getElem
abbrev Pq:=@Array.getElem?_eq_none
abbrev A7:=@Array.getElem?_eq_some_iff
abbrev Iz:=@Array.getElem?_modify
abbrev Rt:=@Array.getElem?_push_lt
abbrev Pr:=@Array.getElem?_push_size
abbrev Ps:=@Array.getElem?_toList
abbrev Kx:=@Array.size_append
abbrev Dx:=@Array.toList_inj
abbrev E7:=@BitVec.eq_of_getLsbD_eq
abbrev Bx:=@BitVec.getLsbD_shiftLeft
abbrev Ir:=@BitVec.getLsbD_ushiftRight
abbrev Is:=@BitVec.getLsbD_xor
abbrev NR:=@BitVec.msb_eq_getLsbD_last
abbrev Ky:=@BitVec.shiftLeft_add
abbrev By:=@BitVec.xor_assoc
abbrev Kz:=@BitVec.xor_self
abbrev E8:=@BitVec.xor_zero
abbrev lq:=@Bool.and_eq_true
abbrev KA:=@Bool.eq_iff_iff
abbrev DG:=@Bool.false_eq_true
abbrev E9:=@Bool.false_or
abbrev sw:=@Bool.not_eq_true'
abbrev mL:=@Bool.not_false
abbrev eE:=@Bool.not_true
abbrev wB:=@Bool.or_eq_true
abbrev Fa:=@Bool.or_true
abbrev t6:=@Bool.true_and
abbrev Fc:=@ByteArray.ext
abbrev uw:=@ByteArray.size_append
abbrev DH:=@Classical.byContradiction
abbrev Bz:=@Exists.intro
abbrev NS:=@Int.fdiv_eq_ediv_of_nonneg
abbrev wC:=@Int.le_refl
abbrev Fd:=@Int.tmod_lt_of_pos
abbrev Fe:=@Int.tmod_nonneg
abbrev gP:=@Int.toNat_natCast
abbrev It:=@List.Pairwise.filter
abbrev sA:=@List.Pairwise.nil
abbrev DI:=@List.Perm.refl
abbrev Iu:=@List.all_eq_true
abbrev Iv:=@List.any_eq_false
abbrev BA:=@List.any_eq_true
abbrev cA:=@List.append_assoc
abbrev Iw:=@List.append_inj
abbrev jA:=@List.append_nil
abbrev NT:=@List.drop_eq_getElem_cons
abbrev Ff:=@List.drop_length
abbrev Fg:=@List.drop_zero
abbrev DJ:=@List.eq_nil_of_length_eq_zero
abbrev Ix:=@List.ext_getElem?
abbrev ux:=@List.filter_append
abbrev t7:=@List.filter_cons_of_neg
abbrev xF:=@List.filter_cons_of_pos
abbrev Iy:=@List.filter_eq_nil_iff
abbrev xG:=@List.filter_eq_self
abbrev DK:=@List.find?_eq_none
abbrev yw:=@List.flatMap_append
abbrev wD:=@List.flatMap_cons
abbrev IA:=@List.foldl_cons
abbrev NU:=@List.getD_eq_getElem?_getD
abbrev KB:=@List.getElem?_append
abbrev jm:=@List.getElem?_append_left
abbrev jn:=@List.getElem?_append_right
abbrev DL:=@List.getElem?_cons_succ
abbrev Fh:=@List.getElem?_cons_zero
abbrev qT:=@List.getElem?_drop
abbrev bh:=@List.getElem?_eq_getElem
abbrev vu:=@List.getElem?_eq_none
abbrev bR:=@List.getElem?_eq_some_iff
abbrev DM:=@List.getElem?_eraseIdx
abbrev uy:=@List.getElem?_map
abbrev DN:=@List.getElem?_set
abbrev Af:=@List.getElem?_set_ne
abbrev Ag:=@List.getElem?_set_self
abbrev pY:=@List.getElem?_take
abbrev dG:=@List.getElem_mem
abbrev IB:=@List.getElem_of_mem
abbrev IC:=@List.getElem_set_ne
abbrev br:=@List.length_append
abbrev dx:=@List.length_cons
abbrev sL:=@List.length_drop
abbrev wE:=@List.length_eq_zero_iff
abbrev Fi:=@List.length_filter_le
abbrev iq:=@List.length_map
abbrev ma:=@List.length_nil
abbrev Fj:=@List.length_set
abbrev mM:=@List.length_singleton
abbrev gQ:=@List.length_take
abbrev wF:=@List.map_append
abbrev Fk:=@List.map_congr_left
abbrev vw:=@List.map_cons
abbrev BB:=@List.map_map
abbrev BC:=@List.map_nil
abbrev Fm:=@List.map_toArray
abbrev cM:=@List.mem_append
abbrev mb:=@List.mem_append_left
abbrev ov:=@List.mem_append_right
abbrev bC:=@List.mem_cons
abbrev lp:=@List.mem_cons_of_mem
abbrev dF:=@List.mem_cons_self
abbrev gC:=@List.mem_filter
abbrev dt:=@List.mem_iff_getElem?
abbrev cL:=@List.mem_map
abbrev wc:=@List.mem_map_of_mem
abbrev Gk:=@List.mem_of_find?_eq_some
abbrev az:=@List.mem_of_getElem?
abbrev Dy:=@List.mem_of_mem_drop
abbrev Jz:=@List.mem_of_mem_eraseIdx
abbrev Gl:=@List.mem_of_mem_take
abbrev A1:=@List.mem_range
abbrev cp:=@List.mem_singleton
abbrev ow:=@List.nil_append
abbrev yW:=@List.nodup_cons
abbrev cF:=@List.not_mem_nil
abbrev JA:=@List.not_of_lt_findIdx
abbrev lT:=@List.pairwise_append
abbrev jl:=@List.pairwise_cons
abbrev eC:=@List.pairwise_iff_getElem
abbrev Dz:=@List.pairwise_map
abbrev xA:=@List.pairwise_singleton
abbrev xB:=@List.set_append_right
abbrev A2:=@List.size_toArray
abbrev qS:=@List.take_append_drop
abbrev f9:=@List.take_length
abbrev sI:=@List.take_of_length_le
abbrev my:=@Nat.add_assoc
abbrev DA:=@Nat.add_comm
abbrev Gm:=@Nat.add_left_comm
abbrev ga:=@Nat.add_mul
abbrev Gn:=@Nat.add_sub_cancel
abbrev mz:=@Nat.add_zero
abbrev wd:=@Nat.ble_eq_true_of_le
abbrev xC:=@Nat.eq_of_beq_eq_true
abbrev Gp:=@Nat.eq_of_testBit_eq
abbrev A3:=@Nat.eq_zero_or_pos
abbrev fw:=@Nat.le_of_ble_eq_true
abbrev uO:=@Nat.le_of_eq
abbrev bx:=@Nat.le_refl
abbrev du:=@Nat.le_trans
abbrev uP:=@Nat.lt_of_lt_of_le
abbrev e9:=@Nat.lt_or_ge
abbrev yX:=@Nat.lt_or_gt_of_ne
abbrev Gq:=@Nat.lt_trichotomy
abbrev A4:=@Nat.min_eq_left
abbrev DB:=@Nat.mod_eq_of_lt
abbrev lU:=@Nat.mul_le_mul_right
abbrev yY:=@Nat.mul_right_cancel
abbrev DC:=@Nat.pow_le_pow_right
abbrev A5:=@Nat.pow_succ
abbrev sJ:=@Nat.sub_self
abbrev DE:=@Nat.testBit_lt_two_pow
abbrev kj:=@Nat.zero_add
abbrev cT:=@Nat.zero_le
abbrev DF:=@Nat.zero_mul
abbrev al:=@Option.bind_some
abbrev yZ:=@Option.getD_some
abbrev Gs:=@Option.isSome_none
abbrev Gt:=@Option.isSome_some
abbrev Gu:=@Option.map_eq_some_iff
abbrev nG:=@Option.map_some
abbrev bJ:=@Option.some.inj
abbrev cw:=@Option.some.injEq
abbrev y4:=@Prod.mk.injEq
abbrev A6:=@UInt8.not_lt
abbrev bG:=List Value
noncomputable abbrev aO:=Tryz.prog
abbrev am (x:Int):Value:=.int .i64 x
abbrev bc (x:ByteArray):Value:=.string x
abbrev cu:ByteArray:=ByteArray.mk #[]
theorem uE {p:Prop} (h:p):Hid p:=h
def Dr (w w':World):Prop:=∃ n,w'=w.drewN n
theorem Dr.refl (w:World):Dr w w:=⟨0,rfl⟩
theorem Dr.next {w:World} (h:Dr w a) (n:Nat):Dr w (a.drewN n):=by
 obtain⟨m,rfl⟩:=h; exact⟨m+n,by rw [World.drewN_drewN]⟩
theorem Dr.trans {w b:World} (h:Dr w a) (k:Dr a b):Dr w b:=by
 obtain⟨m,rfl⟩:=k; exact h.next m
theorem Dr.below {w:World} (h:Dr w a) (B:Nat):Below B w a:=by
 obtain⟨m,rfl⟩:=h; exact⟨rfl,rfl,rfl,bx _,fun _ _=>rfl⟩
theorem IP {w w':World} (h:Below a.heap.size a w) (k:Below w.heap.size w w'):Below a.heap.size a w':=h.trans (k.mono h.size)
structure GE (P:Program) (t e:TypeId) (size bytes:Nat):Prop where
 ht:P.underlying t=some (.slice e)
 hi:∃ i z,P.info? e=some i/\i.zero=some z/\i.size=size/\i.bytes=bytes/\z.cells.size=size
 pos:0<size
def Sl {α:Type} (enc:α->bG) (size:Nat) (w:World) (B:Nat) (v:Value) (xs:List α):Prop :=
 ∃ A c,v = .slice A xs.length c/\xs.length<=c/\c<=maxLen /\
  (xs=[]∨∃ b off,A=some ⟨b,off,none⟩/\b<B/\∀ k x,xs[k]? = some x->∀ j u,(enc x)[j]? = some u->w.cell? ⟨b,off+k*size+j,none⟩=some u)
section
variable {α:Type} {enc:α->bG} {size:Nat} {w w':World} {B B':Nat} {v:Value} {xs:List α}
theorem Sl.keep (h:Sl enc size w B v xs) (O:∀ p:Addr,p.block<B->w'.cell? p=w.cell? p):Sl enc size w' B v xs:=by
 obtain⟨A,c,e,h1,h2,h3⟩:=h;refine⟨A,c,e,h1,h2,?_⟩;rcases h3 with h3 | ⟨b,off,e2,hb,hc⟩
 ·exact .inl h3
 ·exact .inr ⟨b,off,e2,hb,fun k x hx j u hu=>(O _ hb).trans (hc k x hx j u hu)⟩
theorem Sl.below (h:Sl enc size w B v xs) (hb:Below B w w'):Sl enc size w' B v xs:=h.keep fun _ hp=>hb.cell hp
theorem Sl.more (h:Sl enc size w B v xs) (hB:B<=B'):Sl enc size w B' v xs:=by
 obtain⟨A,c,e,h1,h2,h3⟩:=h;refine⟨A,c,e,h1,h2,?_⟩;rcases h3 with h3 | ⟨b,off,e2,hb,hc⟩
 ·exact .inl h3
 ·exact .inr ⟨b,off,e2,by omega,hc⟩
theorem Sl.later (h:Sl enc size w w.heap.size v xs) (hb:Below w.heap.size w w'):Sl enc size w' w'.heap.size v xs:=(h.below hb).more hb.size
theorem Sl.nil_ (c:Nat) (A:Option Addr) (hc:c<=maxLen):Sl enc size w B (.slice A 0 c) []:=⟨A,c,rfl,cT _,hc,.inl rfl⟩
end
def At (w:World) (A:Option Addr) (cs:bG):Prop:=cs=[]∨∃ b off,A=some ⟨b,off,none⟩/\∀ j u,cs[j]? = some u->w.cell? ⟨b,off+j,none⟩=some u
def Rz (A:Option Addr) (B:Nat) (cs:bG):Prop:=cs=[]∨∃ b off,A=some ⟨b,off,none⟩/\b<B
theorem At.below {w w':World} {A:Option Addr} {cs:bG} {B:Nat} (h:At w A cs) (hl:Rz A B cs) (hb:Below B w w'):At w' A cs:=by
 rcases h with h | ⟨b,off,e,h⟩
 ·exact .inl h
 ·rcases hl with hl | ⟨b',off',e',hl⟩
  ·exact .inl hl
  ·rw [e] at e'; injection e' with e'; injection e' with e1 e2; subst e1 e2;exact .inr ⟨b,off,e,fun j u hu=>(hb.cell (by exact hl)).trans (h j u hu)⟩
theorem At.later {w w':World} {A:Option Addr} {cs:bG} (h:At w A cs) (hl:Rz A w.heap.size cs) (hb:Below w.heap.size w w'):At w' A cs:=h.below hl hb
theorem Bk {α:Type} {enc:α->bG} {size:Nat} (he:∀ x,(enc x).length=size) (xs:List α):(xs.flatMap enc).length=xs.length*size:=by
 induction xs with
 | nil=>simp
 | cons x r ih=>simp only [wD,br,he,ih,dx]; rw [ga]; omega
theorem Hq {α:Type} {enc:α->bG} {size:Nat} (he:∀ x,(enc x).length=size):∀ (xs:List α) (k j:Nat) (x:α),xs[k]? = some x->j<size->(xs.flatMap enc)[k*size+j]? = (enc x)[j]?
 | [],k,j,x,h,_=>by simp at h
 | y::r,0,j,x,h,hj=>by
  simp only [Fh,cw] at h;subst h;simp only [wD,DF,kj];rw [jm (by rw [he]; exact hj)]
 | y::r,k+1,j,x,h,hj=>by
  simp only [DL] at h;have:=Hq he r k j x h hj;simp only [wD];rw [jn (by rw [he,ga]; omega),he,<- this];congr 1;rw [ga]; omega
def BF (w:World) (g:Nat) (cs:Array Value) (e:TypeId):Prop:=∃ fz:Nat×Nat,w.heap[g]? = some (.cells cs e fz)/\(fz=(0,0)∨cs.size<=fz.1)
theorem BF.of {w:World} {e:TypeId} (h:w.heap[g]? = some (.cells cs e (0,0))):BF w g cs e:=⟨_,h,.inl rfl⟩
theorem BF.lt {w:World} {e:TypeId} (h:BF w g cs e):g<w.heap.size:=by
 obtain⟨fz,h1,_⟩:=h;exact (A7.1 h1).1
theorem BF.eqb {w w':World} {e:TypeId} (h:BF w g cs e) (hb:w'.heap[g]? = w.heap[g]?):BF w' g cs e:=by
 obtain⟨fz,h1,h2⟩:=h;exact⟨fz,hb.trans h1,h2⟩
theorem BF.cell {w:World} {e:TypeId} (h:BF w g cs e) (o:Nat):w.cell? ⟨g,o,none⟩=cs[o]?:=by
 obtain⟨fz,h1,_⟩:=h;exact cell_of_row w g o cs e fz h1
theorem BF.free {w:World} {e:TypeId} (h:BF w g cs e) {o:Nat} (ho:o<cs.size):w.frozen? ⟨g,o,none⟩=false:=by
 obtain⟨fz,h1,h2⟩:=h;simp only [World.frozen?,h1];rcases h2 with rfl | h2
 ·simp
 ·simp; omega
theorem BF.ty {w:World} {cs2:Array Value} {e e2:TypeId} (h:BF w g cs e) (k:BF w g cs2 e2):e=e2:=by
 obtain⟨fz,h1,_⟩:=h;obtain⟨fz2,h2,_⟩:=k;rw [h1] at h2;injection h2 with h2;injection h2
def mN (w:World) (B:Nat) (e:TypeId) (size:Nat) (v:Value) (xs:bG):Prop :=
 (v = .slice none 0 0/\xs=[]) ∨
 ∃ g off n cap cs,v = .slice (some ⟨g,off,none⟩) n cap/\xs.length=n*size/\B<=g/\BF w g cs e/\n<=cap/\cap<=maxLen/\off+cap*size<=cs.size /\
  ∀ j u,xs[j]? = some u->cs[off+j]? = some u
theorem eB (g:Nat) (e:TypeId) (fr:Nat×Nat):∀ (vs:bG) (o:Nat) (w:World) (cs:Array Value),w.heap[g]? = some (.cells cs e fr) ->
  ∃ cs',(w.setCells g o vs).heap[g]? = some (.cells cs' e fr)/\cs'.size=cs.size/\(∀ j,(j<o∨o+vs.length<=j)->cs'[j]? = cs[j]?)/\(o+vs.length<=cs.size->∀ j u,vs[j]? = some u->cs'[o+j]? = some u)
 | [],o,w,cs,h=>⟨cs,h,rfl,fun _ _=>rfl,fun _ j u hu=>by simp at hu⟩
 | v::r,o,w,cs,h=>by
  have h1:(w.setCell ⟨g,o,none⟩ v).heap[g]? = some (.cells (cs.setIfInBounds o v) e fr):=by simp [World.setCell,Iz,h]
  obtain⟨cs',a1,a2,a3,a4⟩:=eB g e fr r (o+1) _ _ h1;refine⟨cs',a1,by rw [a2]; simp,fun j hj=>?_,fun hl j u hu=>?_⟩
  ·rw [a3 j (by simp only [dx] at hj; omega),Array.getElem?_setIfInBounds,if_neg (by simp only [dx] at hj; omega)]
  ·simp only [dx] at hl;cases j with
   | zero =>
    simp only [Fh,cw] at hu;subst hu;rw [mz,a3 o (by omega),Array.getElem?_setIfInBounds,if_pos rfl,if_pos (by omega)]
   | succ j =>
    simp only [DL] at hu;have:=a4 (by simp; omega) j u hu;rwa [show o+(j+1)=o+1+j by omega]
theorem qO (g:Nat):∀ (vs:bG) (o:Nat) (w:World) (k:Nat),k≠g->(w.setCells g o vs).heap[k]? = w.heap[k]?
 | [],_,_,_,_=>rfl
 | v::r,o,w,k,h=>by
  show ((w.setCell ⟨g,o,none⟩ v).setCells g (o+1) r).heap[k]? = _;rw [qO g r (o+1) _ k h]; exact Below.heap_setCell w _ v k h
theorem uL (g:Nat):∀ (vs:bG) (o:Nat) (w:World),(w.setCells g o vs).heap.size=w.heap.size
 | [],_,_=>rfl
 | v::r,o,w=>by
  show ((w.setCell ⟨g,o,none⟩ v).setCells g (o+1) r).heap.size=_;rw [uL g r (o+1) _]; simp [World.setCell]
theorem kg (g:Nat):∀ (vs:bG) (o:Nat) (w:World),(w.setCells g o vs).os=w.os/\(w.setCells g o vs).tape=w.tape/\(w.setCells g o vs).output=w.output
 | [],_,_=>⟨rfl,rfl,rfl⟩
 | v::r,o,w=>kg g r (o+1) (w.setCell ⟨g,o,none⟩ v)
theorem lm (w:World) (g o:Nat) (vs:bG):w.grownBy (w.setCells g o vs) (some g) :=
 ⟨(kg g vs o w).1,(kg g vs o w).2.1,(kg g vs o w).2.2,by rw [uL]; exact bx _,fun k _ O=>qO g vs o w k (fun e=>O (by rw [e]))⟩
section
variable {w w':World} {B B':Nat} {e:TypeId} {size:Nat} {v:Value} {xs:bG}
theorem mN.nil_ (w:World) (B:Nat) (e:TypeId) (size:Nat):mN w B e size (.slice none 0 0) []:=.inl ⟨rfl,rfl⟩
theorem mN.made (w:World) (B:Nat) (e:TypeId) (size:Nat) (cs:Array Value) (cap:Nat) (hB:B<=w.heap.size) (hs:cap*size<=cs.size) (hc:cap<=maxLen):mN (w.alloc (.cells cs e)) B e size (.slice (some ⟨w.heap.size,0,none⟩) 0 cap) [] :=
 .inr ⟨w.heap.size,0,0,cap,cs,rfl,by simp,hB,.of (heap_alloc_new w _),cT _,hc,by omega,fun j u hu=>by simp at hu⟩
theorem mN.lit (w:World) (B:Nat) (e:TypeId) (size:Nat) (cs:Array Value) (n:Nat) (hB:B<=w.heap.size) (hs:cs.size=n*size) (hc:n<=maxLen):mN (w.alloc (.cells cs e)) B e size (.slice (some ⟨w.heap.size,0,none⟩) n n) cs.toList :=
 .inr ⟨w.heap.size,0,n,n,cs,rfl,by simpa using hs,hB,.of (heap_alloc_new w _),bx _,hc,by omega,fun j u hu=>by simpa using hu⟩
theorem mN.blk (h:mN w B e size v xs):∀ k,v.ownBlock=some k->B<=k/\k<w.heap.size/\∃ cs,BF w k cs e:=by
 intro k O;rcases h with⟨rfl,_⟩|⟨g,off,n,cap,cs,rfl,_,hb,hg,_⟩
 ·simp [Value.ownBlock] at O
 ·simp [Value.ownBlock] at O;subst O;exact⟨hb,hg.lt,cs,hg⟩
theorem mN.keep (h:mN w B e size v xs) (O:∀ k,k<w.heap.size->w'.heap[k]? = w.heap[k]?):mN w' B e size v xs:=by
 rcases h with h | ⟨g,off,n,cap,cs,rfl,h1,hb,hgg,rest⟩
 ·exact .inl h
 ·refine .inr ⟨g,off,n,cap,cs,rfl,h1,hb,?_,rest⟩;exact hgg.eqb (O g hgg.lt)
theorem mN.later (h:mN w B e size v xs) (hb:Below w.heap.size w w'):mN w' B e size v xs:=h.keep hb.block
theorem mN.alloc (h:mN w B e size v xs) (o:Obj):mN (w.alloc o) B e size v xs:=h.keep fun k O=>Below.heap_alloc w o k O
theorem mN.drew (h:mN w B e size v xs):mN w.drew B e size v xs:=h
theorem mN.drewN (h:mN w B e size v xs) (n:Nat):mN (w.drewN n) B e size v xs:=h
theorem mN.form (h:mN w B e size v xs) (hs:0<size):∃ A n c,v = .slice A n c/\xs.length=n*size/\n<=c/\c<=maxLen/\At w A xs:=by
 rcases h with⟨rfl,rfl⟩|⟨g,off,n,cap,cs,rfl,h1,hb,hg,hnc,hc,hsz,hcs⟩
 ·exact⟨none,0,0,rfl,by simp,bx _,cT _,.inl rfl⟩
 ·refine⟨_,n,cap,rfl,h1,hnc,hc,.inr ⟨g,off,rfl,fun j u hu=>?_⟩⟩;rw [hg.cell];exact hcs j u hu
theorem mN.below (h:mN w B e size v xs) (hb:Below B a w) (hB:B<=w.heap.size) (hg:w.grownBy w' v.ownBlock):Below B a w':=hb.grown hg hB (fun k O=>(h.blk k O).1)
theorem mN.apart {B2:Nat} {e2:TypeId} {size2:Nat} {v2:Value} {xs2:bG} (h:mN w B e size v xs) (h2:mN w B2 e2 size2 v2 xs2) (hne:e≠e2):v.ownBlock=none∨v.ownBlock≠v2.ownBlock:=by
 cases hv:v.ownBlock with
 | none=>exact .inl rfl
 | some k =>
  right;intro O;obtain⟨_,_,cs,hc⟩:=h.blk k hv;obtain⟨_,_,cs2,hc2⟩:=h2.blk k O.symm;exact hne (hc.ty hc2)
end
theorem mN.sl {α:Type} {enc:α->bG} {size:Nat} {w:World} {B:Nat} {e:TypeId} {v:Value} {l:List α} (he:∀ x,(enc x).length=size) (hs:0<size) (h:mN w B e size v (l.flatMap enc)) :
  Sl enc size w w.heap.size v l:=by
 rcases h with⟨rfl,h⟩|⟨g,off,n,cap,cs,rfl,h1,hb,hg,hnc,hc,hsz,hcs⟩
 ·have hl:=Bk he l;rw [h] at hl;have:l=[]:=by
   cases l with
   | nil=>rfl
   | cons x r=>simp [ga] at hl; omega
  subst this;exact Sl.nil_ 0 none (cT _)
 ·rw [Bk he] at h1;have hn:n=l.length:=(yY hs h1).symm;subst hn;refine⟨_,cap,rfl,hnc,hc,.inr ⟨g,off,rfl,hg.lt,fun k x hx j u hu=>?_⟩⟩;have hj:j<size:=by rw [<- he x]; exact (bR.1 hu).1
  rw [hg.cell,my];exact hcs _ u (by rw [Hq he l k j x hx hj]; exact hu)
section
variable {P:Program}
theorem ww (w:World) (t ty e:TypeId) (i:TypeInfo) (ht:P.underlying t=some (.slice e)) (hi:P.info? e=some i) (A:Option Addr) (n cap c:Nat) (B:Option Addr) (hnc:n<=cap) :
  (Builtin.append_ #[t,t] ty #[.slice A n cap,.slice B 0 c]).run P w = .ok (.slice A n cap) w:=by
 cases A <;> cases B <;> simp [Builtin.append_,run_underlying ht,sizeOf,typeInfo,hi,Builtin.lenOf,Builtin.firstCells,hnc,storeCells,loadCells,loadCellsFrom]
theorem Dd (w:World) (t ty e:TypeId) (size bytes:Nat) (E:GE P t e size bytes) (B:Nat) (v:Value) (xs:bG) (hown:mN w B e size v xs)
  (A:Option Addr) (m c:Nat) (news:bG) (hl:news.length=m*size) (hat:At w A news) (h1:∀ u∈news,u.oneCell'=true)
  (h63:xs.length+news.length<=maxLen) (hbytes:(xs.length+news.length)*bytes<=140737488355328) (hbase:B<=w.heap.size) :
  ∃ v' w',(Builtin.append_ #[t,t] ty #[v,.slice A m c]).run P w = .ok v' w'/\mN w' B e size v' (xs++news)/\w.grownBy w' v.ownBlock/\(v'.ownBlock=v.ownBlock∨v'.ownBlock=some w.heap.size):=by
 obtain⟨ht,⟨i,z,hi,hz,hsize,hby,hzs⟩,hpos⟩:=E;subst hsize hby;by_cases hm:m=0
 ·subst hm;have hn:news=[]:=DJ (by simpa using hl);subst hn;rcases hown with⟨rfl,rfl⟩|⟨g,off,n,cap,cs,rfl,a1,hb,hg,hnc,hc,hsz,hcs⟩
  ·exact⟨_,w,ww w t ty e i ht hi none 0 0 c A (bx _),.inl ⟨rfl,rfl⟩,World.grownBy.refl w _,.inl rfl⟩
  ·exact⟨_,w,ww w t ty e i ht hi _ n cap c A hnc,.inr ⟨g,off,n,cap,cs,rfl,by simpa using a1,hb,hg,hnc,hc,hsz,by simpa using hcs⟩,World.grownBy.refl w _,.inl rfl⟩
 ·have hne:news≠[]:=by rintro rfl; rw [ma] at hl; rcases Nat.mul_eq_zero.1 hl.symm with h | h <;> omega
  obtain⟨sb,soff,rfl,hcell⟩:∃ b off,A=some ⟨b,off,none⟩/\∀ j u,news[j]? = some u->w.cell? ⟨b,off+j,none⟩=some u:=by
   rcases hat with h | h
   ·exact absurd h hne
   ·exact h
  have hcell':∀ j u,news[j]? = some u->w.cell? ((⟨sb,soff,none⟩:Addr).add j)=some u:=fun j u hu=>by rw [Addr.add_lit]; exact hcell j u hu
  have hmn:m<=news.length:=by rw [hl]; exact Nat.le_mul_of_pos_right _ hpos
  have grown:∀ (old n:Nat),old<n+m->xs.length=n*i.size->n+m<=xs.length+news.length ->
    mN (w.drew.alloc (.cells (xs.toArray++news.toArray++Builtin.zeroCells z.cells (grownCap w (n+m) old e-(n+m))) e)) B e i.size
     (.slice (some ⟨w.heap.size,0,none⟩) (n+m) (grownCap w (n+m) old e)) (xs++news):=by
   intro old n ho hx hle;have hge:=grownCap_ge w (n+m) old e;have hcm:grownCap w (n+m) old e<=maxLen:=grownCap_le_maxLen w (n+m) old e (by omega);refine .inr ⟨w.heap.size,0,n+m,_,_,rfl,by rw [br,hx,hl,ga],hbase,.of (heap_alloc_new w.drew _),hge,hcm,?_,?_⟩
   ·simp only [Kx,A2,size_zeroCells,hzs,hx,hl,<- ga];rw [kj];exact lU _ (by omega)
   ·intro j u hu;rw [kj,Pp (by
     have:=(bR.1 hu).1;simpa using this)]
    simpa using hu
  rcases hown with⟨rfl,rfl⟩|⟨g,off,n,cap,cs,rfl,a1,hb,hg,hnc,hc,hsz,hcs⟩
  ·have hr:=run_append_nil (P:=P) w t ty e i z ht hi hz ⟨sb,soff,none⟩ m c news hl hcell' (by omega) (by simp only [maxLen] at h63; simp at h63; omega)
    (by
     have h2:m*i.bytes<=news.length*i.bytes:=lU _ hmn;simp only [ma,kj] at hbytes;omega)
   have hgr:=grown 0 0 (by omega) (by simp) (by simp; omega);simp only [kj,ow,Array.empty_append] at hgr;exact⟨_,_,hr,hgr,⟨rfl,rfl,rfl,by simp,fun k O _=>Below.heap_alloc w.drew _ k O⟩,.inr rfl⟩
  ·have hnx:n<=xs.length:=by rw [a1]; exact Nat.le_mul_of_pos_right _ hpos
   by_cases hroom:n+m<=cap
   ·have hfit:off+n*i.size+news.length<=cs.size:=by
     have:(n+m)*i.size<=cap*i.size:=lU _ hroom;rw [hl]; rw [ga] at this; omega
    have hr:=run_append_room_cells (P:=P) w t ty e i ht hi g off n cap ⟨sb,soff,none⟩ m c news hl hcell' h1 hroom
     (fun j hj=>by rw [hg.cell,xD (by omega)]; rfl)
     (fun j hj=>hg.free (by omega))
    obtain⟨fz,hg0,hfz⟩:=id hg;obtain⟨cs',c1,c2,c3,c4⟩:=eB g e fz news (off+n*i.size) w cs hg0;refine⟨_,_,hr,.inr ⟨g,off,n+m,cap,cs',rfl,by rw [br,a1,hl,ga],hb,⟨fz,c1,by rw [c2]; exact hfz⟩,hroom,hc,by rw [c2]; exact hsz,fun j u hu=>?_⟩,lm w g _ news,.inl rfl⟩;by_cases hj:j<xs.length
    ·rw [jm hj] at hu;rw [c3 _ (by omega)];exact hcs j u hu
    ·rw [jn (by omega)] at hu;have:=c4 hfit (j-xs.length) u hu;rwa [show off+n*i.size+(j-xs.length)=off+j by omega] at this
   ·have hr:=run_append_grow (P:=P) w t ty e i z ht hi hz ⟨g,off,none⟩ n cap xs a1 (fun j u hu=>by rw [Addr.add_lit,hg.cell]; exact hcs j u hu)
     ⟨sb,soff,none⟩ m c news hl hcell' (by omega) (by simp only [maxLen] at h63; omega)
     (growslice_fits (by omega) (by
      have h2:(n+m)*i.bytes<=(xs.length+news.length)*i.bytes:=lU _ (by omega);omega))
    have hgr:=grown cap n (by omega) a1 (by omega);exact⟨_,_,hr,hgr,⟨rfl,rfl,rfl,by simp,fun k O _=>Below.heap_alloc w.drew _ k O⟩,.inr rfl⟩
theorem uN (w:World) {o:Oper} {a:Act} {K:Act->World->Prop} {Q:Exit->Act->World->Prop} (s x:Operand) (t:TypeId)
  (ho:o.op = .call { callee:=.builtin .append,args:=#[s,x],argTypes:=#[t,t] })
  (e:TypeId) (size bytes:Nat) (E:GE P t e size bytes) (B:Nat) (v:Value) (xs:bG) (hs:a.eval s=v) (hown:mN w B e size v xs)
  (A:Option Addr) (m c:Nat) (news:bG) (hx:a.eval x = .slice A m c) (hl:news.length=m*size) (hat:At w A news) (h1:∀ u∈news,u.oneCell'=true)
  (h63:xs.length+news.length<=maxLen) (hbytes:(xs.length+news.length)*bytes<=140737488355328) (hbase:B<=w.heap.size)
  (h:∀ v' w',mN w' B e size v' (xs++news)->w.grownBy w' v.ownBlock->(v'.ownBlock=v.ownBlock∨v'.ownBlock=some w.heap.size)->K (a.put o.dst v') w'):o.wp P a w K Q:=by
 obtain⟨v',w',hrun,h2,h3,h4⟩:=Dd (P:=P) w t o.type e size bytes E B v xs hown A m c news hl hat h1 h63 hbytes hbase;unfold Oper.wp execOp;simp only [ho,resolve,invoke,builtin,Sem.run_bind,Sem.run_pure,Result.andThen_ok,Fm,vw,BC,hs,hx,hrun];exact h v' w' h2 h3 h4
theorem Dt (w:World) {ops:Array Oper} {rest:List Oper} {o:Oper} {a:Act} {Q:Exit->Act->World->Prop} (hgd:o.guard=none) (s x:Operand) (t:TypeId)
  (ho:o.op = .call { callee:=.builtin .append,args:=#[s,x],argTypes:=#[t,t] })
  (e:TypeId) (size bytes:Nat) (E:GE P t e size bytes) (B:Nat) (v:Value) (xs:bG) (hs:a.eval s=v) (hown:mN w B e size v xs)
  (A:Option Addr) (m c:Nat) (news:bG) (hx:a.eval x = .slice A m c) (hl:news.length=m*size) (hat:At w A news) (h1:∀ u∈news,u.oneCell'=true)
  (h63:xs.length+news.length<=maxLen) (hbytes:(xs.length+news.length)*bytes<=140737488355328) (hbase:B<=w.heap.size)
  (h:∀ v' w',mN w' B e size v' (xs++news)->w.grownBy w' v.ownBlock->(v'.ownBlock=v.ownBlock∨v'.ownBlock=some w.heap.size)->wpList P ops Q rest (a.put o.dst v') w'):wpList P ops Q (o::rest) a w :=
 wpList_plain hgd fun _ hK=>uN w s x t ho e size bytes E B v xs hs hown A m c news hx hl hat h1 h63 hbytes hbase fun v' w' h2 h3 h4=>hK _ _ (h v' w' h2 h3 h4)
end
def La (w:World):Type:={ w':World // Below w.heap.size w w' }
instance La.some_ (w:World):Nonempty (La w):=⟨⟨w,Below.refl _ _⟩⟩
def La.w {w:World} (x:La w):World:=x.1
theorem La.below {w:World} (x:La w):Below w.heap.size w x.w:=x.2
theorem La.cell {w:World} (x:La w) {p:Addr} {v:Value} (h:w.cell? p=some v):x.w.cell? p=some v:=(x.below.cell (World.block_lt_of_cell? w p h)).trans h
theorem La.sl {α:Type} {enc:α->bG} {size:Nat} {w:World} {v:Value} {xs:List α} (x:La w) (h:Sl enc size w w.heap.size v xs):Sl enc size x.w x.w.heap.size v xs:=h.later x.below
theorem La.call {P:Program} {f:FuncId} {args:Array Value} {w:World} {x:La w} {v:Value}
  (h:Calls P f args x.w fun e w''=>e = .returned v/\Below x.w.heap.size x.w w''):Calls P f args x.w fun e w''=>e = .returned v/\∃ y:La w,w''=y.w :=
 h.mono fun _ w'' ⟨he,hb⟩=>⟨he,⟨w'',IP x.below hb⟩,rfl⟩
end
section
open Go.RowKit
variable {T T':Nat->Prop} {cl cs:bG} {v:Value} {w w':World} {α:Type} {x:α} {xs:List α}
structure Kt (T:Nat->Prop) (w w':World):Prop where
 os:w'.os=w.os
 tape:w'.tape=w.tape
 output:w'.output=w.output
 size:w.heap.size<=w'.heap.size
 block:∀ k,k<w.heap.size->¬ T k->w'.heap[k]? = w.heap[k]?
def No:Nat->Prop:=fun _=>False
theorem aw (T:Nat->Prop) (w:World):Kt T w w:=⟨rfl,rfl,rfl,bx _,fun _ _ _=>rfl⟩
theorem Kt.trans {a b c:World} (h:Kt T a b) (k:Kt T b c):Kt T a c :=
 ⟨k.os.trans h.os,k.tape.trans h.tape,k.output.trans h.output,du h.size k.size,fun i hi hn=>(k.block i (uP hi h.size) hn).trans (h.block i hi hn)⟩
theorem Kt.mono (h:Kt T w w') (hT:∀ k,T k->T' k):Kt T' w w':=⟨h.os,h.tape,h.output,h.size,fun k O hn=>h.block k O (fun ht=>hn (hT k ht))⟩
theorem Kt.no (h:Kt No w w'):Kt T w w':=h.mono fun _ h=>h.elim
theorem Kt.step {M:Nat->Prop} {a b c:World} (h:Kt M a b) (k:Kt T b c) (hT:∀ k,T k->M k∨a.heap.size<=k):Kt M a c :=
 ⟨k.os.trans h.os,k.tape.trans h.tape,k.output.trans h.output,du h.size k.size,fun i hi hn=>(k.block i (uP hi h.size) (fun ht=>by rcases hT i ht with h1 | h1; exact hn h1; omega)).trans (h.block i hi hn)⟩
theorem Kt.below (h:Kt No w w'):Below w.heap.size w w':=⟨h.os,h.tape,h.output,h.size,fun k O=>h.block k O (fun h=>h)⟩
theorem Kt.ofBelow (h:Below w.heap.size w w'):Kt No w w':=⟨h.os,h.tape,h.output,h.size,fun k O _=>h.block k O⟩
theorem Kt.drew (w:World):Kt No w w.drew:=⟨rfl,rfl,rfl,bx _,fun _ _ _=>rfl⟩
theorem Kt.drewN (w:World) (n:Nat):Kt No w (w.drewN n):=⟨rfl,rfl,rfl,bx _,fun _ _ _=>rfl⟩
theorem Kt.alloc (w:World) (o:Obj):Kt No w (w.alloc o):=⟨rfl,rfl,rfl,by simp,fun k O _=>Below.heap_alloc w o k O⟩
theorem Kt.setCell (w:World) (p:Addr) (v:Value):Kt (fun k=>k=p.block) w (w.setCell p v) :=
 ⟨rfl,rfl,rfl,by simp [World.setCell],fun k _ hn=>Below.heap_setCell w p v k hn⟩
theorem Kt.setCells (w:World) (g o:Nat) (vs:bG):Kt (fun k=>k=g) w (w.setCells g o vs) :=
 ⟨(kg g vs o w).1,(kg g vs o w).2.1,(kg g vs o w).2.2,by rw [uL]; exact bx _,fun k _ hn=>qO g vs o w k hn⟩
theorem Kt.grown {row:Option Nat} (h:w.grownBy w' row):Kt (fun k=>row=some k) w w' :=
 ⟨h.os,h.tape,h.output,h.size,fun k O hn=>h.block k O (fun e=>hn e.symm)⟩
theorem Kt.cell (h:Kt T w w') {p:Addr} (hl:p.block<w.heap.size) (hn:¬ T p.block):w'.cell? p=w.cell? p:=World.cell?_of_block (w:=w) (h.block _ hl hn)
def Nw (T T':Nat->Prop) (w:World):Prop:=∀ k,T' k->T k∨w.heap.size<=k
theorem Nw.refl (T:Nat->Prop) (w:World):Nw T T w:=fun _ h=>.inl h
structure co where
 p:(Nat->Prop)->World->Prop
 keep:∀ {T T':Nat->Prop} {w w':World},p T w->Kt T w w'->Nw T T' w->p T' w'
structure aY (α:Type) where
 size:Nat
 rel:(Nat->Prop)->World->bG->α->Prop
 len:∀ {T w cs x},rel T w cs x->cs.length=size
 one:∀ {T w cs x},rel T w cs x->∀ u∈cs,u.oneCell'=true
 keep:∀ {T T':Nat->Prop} {w w':World} {cs x},rel T w cs x->Kt T w w'->Nw T T' w->rel T' w' cs x
def p9 (T:Nat->Prop) (w:World) (b o:Nat) (cs:bG):Prop:=¬ T b/\b<w.heap.size/\∀ j u,cs[j]? = some u->w.cell? ⟨b,o+j,none⟩=some u
theorem p9.keep {b o:Nat} (h:p9 T w b o cs) (k:Kt T w w') (hn:Nw T T' w):p9 T' w' b o cs :=
 ⟨fun ht=>by rcases hn b ht with h1 | h1; exact h.1 h1; have:=h.2.1; omega,uP h.2.1 k.size,fun j u hu=>(k.cell (p:=⟨b,o+j,none⟩) h.2.1 h.1).trans (h.2.2 j u hu)⟩
def bS (b o:Nat) (cs:bG):co:=⟨fun T w=>p9 T w b o cs,fun h k n=>h.keep k n⟩
theorem p9.sub {b o:Nat} {ds:bG} (k:Nat) (h:p9 T w b o cs) (hd:∀ j u,ds[j]? = some u->cs[k+j]? = some u):p9 T w b (o+k) ds :=
 ⟨h.1,h.2.1,fun j u hu=>by have:=h.2.2 (k+j) u (hd j u hu); rwa [<- my] at this⟩
def aQ (R:aY α) (T:Nat->Prop) (w:World) (v:Value) (xs:List α):Prop :=
 ∃ A c,v = .slice A xs.length c/\xs.length<=c/\c<=maxLen /\
  (xs=[]∨∃ b off,A=some ⟨b,off,none⟩/\∀ k x,xs[k]? = some x->∃ cs,R.rel T w cs x/\p9 T w b (off+k*R.size) cs)
theorem aQ.keep {R:aY α} (h:aQ R T w v xs) (k:Kt T w w') (hn:Nw T T' w):aQ R T' w' v xs:=by
 obtain⟨A,c,e,h1,h2,h3⟩:=h;refine⟨A,c,e,h1,h2,?_⟩;rcases h3 with h3 | ⟨b,off,e2,hc⟩
 ·exact .inl h3
 ·refine .inr ⟨b,off,e2,fun i x hx=>?_⟩;obtain⟨cs,ha,hb⟩:=hc i x hx;exact⟨cs,R.keep ha k hn,hb.keep k hn⟩
theorem aQ.sub {R:aY α} (h:aQ R T w v xs) (hn:Nw T T' w):aQ R T' w v xs:=h.keep (aw _ _) hn
theorem aQ.nil_ (R:aY α) (T:Nat->Prop) (w:World):aQ R T w (.slice none 0 0) []:=⟨none,0,rfl,bx _,cT _,.inl rfl⟩
theorem aQ.one {R:aY α} (h:aQ R T w v xs):v.oneCell'=true:=by obtain⟨A,c,rfl,_⟩:=h; rfl
def aT (R:aY α) (v:Value) (xs:List α):co:=⟨fun T w=>aQ R T w v xs,fun h k n=>h.keep k n⟩
theorem aQ.len {R:aY α} (h:aQ R T w v xs):∃ A c,v = .slice A xs.length c/\xs.length<=c/\c<=maxLen:=by obtain⟨A,c,e,h1,h2,_⟩:=h; exact⟨A,c,e,h1,h2⟩
def bp (xs:List α) (i:Int):Option α:=if 0<=i then xs[i.toNat]? else none
theorem pJ {i:Int} (h:bp xs i=some x):0<=i/\i<xs.length/\xs[i.toNat]? = some x:=by
 unfold bp at h;split at h
 ·have:=(bR.1 h).1;exact⟨by omega,by omega,h⟩
 ·cases h
def aY.slice (R:aY α):aY (List α) where
 size:=1
 rel:=fun T w cs xs=>∃ v,cs=[v]/\aQ R T w v xs
 len:=by rintro _ _ _ _ ⟨v,rfl,_⟩; rfl
 one:=by rintro _ _ _ _ ⟨v,rfl,h⟩ u hu; simp only [bC,cF,or_false] at hu; subst hu; exact h.one
 keep:=by rintro _ _ _ _ _ _ ⟨v,rfl,h⟩ k n; exact⟨v,rfl,h.keep k n⟩
def aY.int (k:IntKind):aY Int where
 size:=1
 rel:=fun _ _ cs x=>cs=[.int k x]
 len:=by rintro _ _ _ _ rfl; rfl
 one:=by rintro _ _ _ _ rfl u hu; simp only [bC,cF,or_false] at hu; subst hu; rfl
 keep:=fun h _ _=>h
def aY.bool:aY Bool where
 size:=1
 rel:=fun _ _ cs x=>cs=[.bool x]
 len:=by rintro _ _ _ _ rfl; rfl
 one:=by rintro _ _ _ _ rfl u hu; simp only [bC,cF,or_false] at hu; subst hu; rfl
 keep:=fun h _ _=>h
def aY.str:aY ByteArray where
 size:=1
 rel:=fun _ _ cs x=>cs=[.string x]
 len:=by rintro _ _ _ _ rfl; rfl
 one:=by rintro _ _ _ _ rfl u hu; simp only [bC,cF,or_false] at hu; subst hu; rfl
 keep:=fun h _ _=>h
def aY.prod {β:Type} (R:aY α) (S:aY β):aY (α×β) where
 size:=R.size+S.size
 rel:=fun T w cs x=>∃ c d,cs=c++d/\R.rel T w c x.1/\S.rel T w d x.2
 len:=by rintro _ _ _ _ ⟨c,d,rfl,h1,h2⟩; rw [br,R.len h1,S.len h2]
 one:=by rintro _ _ _ _ ⟨c,d,rfl,h1,h2⟩ u hu; rcases cM.1 hu with h | h; exact R.one h1 u h; exact S.one h2 u h
 keep:=by rintro _ _ _ _ _ _ ⟨c,d,rfl,h1,h2⟩ k n; exact⟨c,d,rfl,R.keep h1 k n,S.keep h2 k n⟩
def bf (R:aY α) (T:Nat->Prop) (w:World) (cl:bG) (xs:List α):Prop:=cl.length=xs.length*R.size/\∀ k x,xs[k]? = some x->∃ cs,R.rel T w cs x/\∀ j u,cs[j]? = some u->cl[k*R.size+j]? = some u
theorem bf.keep {R:aY α} (h:bf R T w cl xs) (k:Kt T w w') (hn:Nw T T' w):bf R T' w' cl xs :=
 ⟨h.1,fun i x hx=>by obtain⟨cs,h1,h2⟩:=h.2 i x hx; exact⟨cs,R.keep h1 k hn,h2⟩⟩
def au (R:aY α) (cl:bG) (xs:List α):co:=⟨fun T w=>bf R T w cl xs,fun h k n=>h.keep k n⟩
theorem bf.nil_ (R:aY α) (T:Nat->Prop) (w:World):bf R T w [] []:=⟨by simp,fun k x hx=>by simp at hx⟩
theorem bf.append {R:aY α} {dl:bG} {ys:List α} (h:bf R T w cl xs) (k:bf R T w dl ys):bf R T w (cl++dl) (xs++ys):=by
 refine⟨by rw [br,br,h.1,k.1,ga],fun i x hx=>?_⟩;by_cases hi:i<xs.length
 ·rw [jm hi] at hx;obtain⟨cs,h1,h2⟩:=h.2 i x hx;refine⟨cs,h1,fun j u hu=>?_⟩;have:=h2 j u hu;rw [jm (bR.1 this).1]; exact this
 ·rw [jn (by omega)] at hx;obtain⟨cs,h1,h2⟩:=k.2 _ x hx;refine⟨cs,h1,fun j u hu=>?_⟩;have:=h2 j u hu;have he:xs.length*R.size+((i-xs.length)*R.size+j)=i*R.size+j:=by
   rw [<- my,<- ga]; congr 2; omega
  rw [jn (by rw [h.1,<- he]; omega),h.1,<- he,Nat.add_sub_cancel_left];exact this
theorem aN {R:aY α} (h:R.rel T w cs x):bf R T w cs [x]:=by
 refine⟨by rw [R.len h]; simp,fun k y hy=>?_⟩;cases k with
 | zero=>simp only [Fh,cw] at hy; subst hy; exact⟨cs,h,fun j u hu=>by rw [DF,kj]; exact hu⟩
 | succ k=>simp at hy
theorem bf.cell {R:aY α} (hs:0<R.size) (h:bf R T w cl xs):∀ u∈cl,u.oneCell'=true:=by
 intro u hu;obtain⟨i,hi,e⟩:=IB hu;have O:i / R.size<xs.length:=by rw [Nat.div_lt_iff_lt_mul hs,<- h.1]; exact hi
 obtain⟨cs,h1,h2⟩:=h.2 _ _ (bh O);have hl:=R.len h1;have hj:i % R.size<cs.length:=by rw [hl]; exact Nat.mod_lt _ hs
 have:=h2 _ _ (bh hj);rw [Nat.div_add_mod' i R.size,bh hi,e] at this;injection this with this;rw [this];exact R.one h1 _ (dG hj)
theorem mN.rd {R:aY α} {B:Nat} {e:TypeId} (hs:0<R.size) (h:mN w B e R.size v cl) (hr:bf R T w cl xs) (hT:∀ k,v.ownBlock=some k->¬ T k):aQ R T w v xs:=by
 rcases h with⟨rfl,rfl⟩|⟨g,off,n,cap,cs,rfl,h1,hb,hg,hnc,hc,hsz,hcs⟩
 ·have hl:=hr.1;have:xs=[]:=by
   cases xs with
   | nil=>rfl
   | cons x r=>simp [ga] at hl; omega
  subst this;exact aQ.nil_ _ _ _
 ·have hn:n=xs.length:=yY hs (h1.symm.trans hr.1);subst hn;refine⟨_,cap,rfl,hnc,hc,.inr ⟨g,off,rfl,fun k x hx=>?_⟩⟩;obtain⟨ds,h2,h3⟩:=hr.2 k x hx;refine⟨ds,h2,hT g rfl,hg.lt,fun j u hu=>?_⟩;rw [hg.cell,my];exact hcs _ u (h3 j u hu)
theorem aQ.rows {R:aY α} {A:Option Addr} {n c:Nat} (hs:0<R.size) (h:aQ R T w (.slice A n c) xs):n=xs.length/\∃ cl,At w A cl/\bf R T w cl xs:=by
 obtain⟨A',c',e,h1,h2,h3⟩:=h;injection e with e1 e2 e3;subst e1 e2 e3;refine⟨rfl,?_⟩;rcases h3 with rfl | ⟨b,off,rfl,hc⟩
 ·exact⟨[],.inl rfl,bf.nil_ _ _ _⟩
 ·have key:∀ (ys:List α) (o:Nat),(∀ k x,ys[k]? = some x->∃ cs,R.rel T w cs x/\p9 T w b (o+k*R.size) cs)->∃ cl:bG,(∀ j u,cl[j]? = some u->w.cell? ⟨b,o+j,none⟩=some u)/\bf R T w cl ys:=by
   intro ys
   induction ys with
   | nil=>intro o _; exact⟨[],fun j u hu=>by simp at hu,bf.nil_ _ _ _⟩
   | cons y r ih =>
    intro o ho;obtain⟨cs,g1,g2⟩:=ho 0 y rfl;obtain⟨cl,g3,g4⟩:=ih (o+R.size) (fun k x hx=>by
     obtain⟨ds,g5,g6⟩:=ho (k+1) x (by simpa using hx);exact⟨ds,g5,by rwa [show o+(k+1)*R.size=o+R.size+k*R.size by rw [ga]; omega] at g6⟩)
    refine⟨cs++cl,fun j u hu=>?_,(aN g1).append g4⟩;have hl:=R.len g1;by_cases hj:j<cs.length
    ·rw [jm hj] at hu;have:=g2.2.2 j u hu;rwa [DF,mz] at this
    ·rw [jn (by omega)] at hu;have:=g3 _ u hu;rwa [show o+R.size+(j-cs.length)=o+j by omega] at this
  obtain⟨cl,g1,g2⟩:=key xs off hc;exact⟨cl,.inr ⟨b,off,rfl,g1⟩,g2⟩
theorem aQ.get {R:aY α} (h:aQ R T w v xs) {i:Int} (hx:bp xs i=some x) :
  ∃ b o c,v = .slice (some ⟨b,o,none⟩) xs.length c/\xs.length<=c/\∃ cs,R.rel T w cs x/\p9 T w b (o+i.toNat*R.size) cs:=by
 obtain⟨hi0,hi1,hi2⟩:=pJ hx;obtain⟨A,c,rfl,h1,h2,h3⟩:=h;rcases h3 with h3 | ⟨b,off,rfl,hc⟩
 ·subst h3; simp at hi1; omega
 ·exact⟨b,off,c,rfl,h1,hc _ _ hi2⟩
end
section
open Go.RowKit
theorem QV {a b:Nat} (h:¬ a=b):Nat.beq a b=false:=by
 cases hb:Nat.beq a b
 ·rfl
 ·exact absurd (xC hb) h
def lk:List (Nat×Value)->Nat->Option Value
 | [],_=>none
 | p::r,t=>cond (Nat.beq p.1 t) (some p.2) (lk r t)
structure DS where
 v:Value
 e:TypeId
 sz:Nat
 cl:bG
def DS.ok (w:World) (o:DS):Prop:=mN w 0 o.e o.sz o.v o.cl/\0<o.sz
inductive cZ where
 | grp (inn:List DS)
 | box (b:Nat) (cs:bG) (t:TypeId)
 | own (v:Value) (e:TypeId) (sz:Nat) (cl:bG)
 | obj (b:Nat) (o:Obj)
def cZ.dom:cZ->Nat->Prop
 | .box b _ _=>fun k=>some b=some k
 | .own v _ _ _=>fun k=>v.ownBlock=some k
 | .obj b _=>fun k=>some b=some k
 | .grp inn=>fun k=>∃ o∈inn,o.v.ownBlock=some k
def cZ.bare:cZ->Bool
 | .own (.slice none _ _) _ _ _=>true
 | _=>false
def cZ.ok (w:World):cZ->Prop
 | .box b cs t=>w.heap[b]? = some (.cells cs.toArray t (0,0))
 | .own v e sz cl=>mN w 0 e sz v cl/\0<sz
 | .obj b o=>w.heap[b]? = some o
 | .grp inn=>(∀ o∈inn,o.ok w)/\inn.Pairwise fun r s=>∀ k,r.v.ownBlock=some k->s.v.ownBlock≠some k
theorem cZ.bare_no {r:cZ} (h:r.bare=true):∀ k,¬ r.dom k:=by
 intro k O;unfold cZ.bare at h;split at h
 ·cases O
 ·cases h
theorem DS.lt {w:World} {o:DS} (h:o.ok w) {k:Nat} (O:o.v.ownBlock=some k):k<w.heap.size:=(h.1.blk k O).2.1
theorem DS.keep {w w':World} {o:DS} (h:o.ok w) (O:∀ k,o.v.ownBlock=some k->w'.heap[k]? = w.heap[k]?):o.ok w':=by
 obtain⟨h1,h2⟩:=h;refine⟨?_,h2⟩;rcases h1 with h1 | ⟨g,off,n,cap,cs,q0,q1,q2,q3,rest⟩
 ·exact .inl h1
 ·exact .inr ⟨g,off,n,cap,cs,q0,q1,q2,q3.eqb (O g (by rw [q0]; rfl)),rest⟩
def dT (T:Nat->Prop) (D:List cZ):Nat->Prop:=fun k=>T k∨∃ r∈D,r.dom k
theorem cZ.lt {w:World} {r:cZ} (h:r.ok w):∀ k,r.dom k->k<w.heap.size:=by
 intro k O;cases r with
 | box b cs t=>simp only [cZ.dom,cw] at O; subst O; exact (A7.1 h).1
 | own v e sz cl=>exact (h.1.blk k O).2.1
 | obj b o=>simp only [cZ.dom,cw] at O; subst O; exact (A7.1 h).1
 | grp inn=>obtain⟨o,ho,O⟩:=O; exact DS.lt (h.1 o ho) O
theorem cZ.keep {w w':World} {r:cZ} (h:r.ok w) (O:∀ k,r.dom k->w'.heap[k]? = w.heap[k]?):r.ok w':=by
 cases r with
 | box b cs t=>exact (O b rfl).trans h
 | obj b o=>exact (O b rfl).trans h
 | grp inn=>exact⟨fun o ho=>DS.keep (h.1 o ho) fun k hk2=>O k ⟨o,ho,hk2⟩,h.2⟩
 | own v e sz cl =>
  obtain⟨h1,h2⟩:=h;refine⟨?_,h2⟩;rcases h1 with h1 | ⟨g,off,n,cap,cs,rfl,q1,q2,q3,rest⟩
  ·exact .inl h1
  ·exact .inr ⟨g,off,n,cap,cs,rfl,q1,q2,q3.eqb (O g rfl),rest⟩
structure St (W:World) (M T:Nat->Prop) (n:Nat) (G:List (Nat×Value)) (D:List cZ) (F:List co) (a:Act) (w:World):Prop where
 size:a.tmps.size=n
 defers:a.defers=[]
 slots:∀ t v,lk G t=some v->a.tmps[t]? = some v
 base:Kt M W w
 own:∀ r∈D,r.ok w
 free:∀ r∈D,∀ k,r.dom k->¬ T k/\(M k∨W.heap.size<=k)
 apart:D.Pairwise fun r s=>∀ k,r.dom k->¬ s.dom k
 facts:∀ f∈F,f.p (dT T D) w
 tlt:∀ k,T k->k<w.heap.size
section
variable {W:World} {M T:Nat->Prop} {n:Nat} {G G':List (Nat×Value)} {D D':List cZ} {F F':List co} {a:Act} {w w':World}
theorem St.dlt (h:St W M T n G D F a w):∀ k,dT T D k->k<w.heap.size:=by
 rintro k (O | ⟨r,hr,O⟩)
 ·exact h.tlt k O
 ·exact cZ.lt (h.own r hr) k O
theorem St.put (h:St W M T n G D F a w) {d:Nat} (hd:Nat.blt d n=true) (v:Value):St W M T n ((d,v)::G) D F (a.put (some d) v) w:=by
 have hd:d<n:=fw hd;refine⟨by simpa [Act.put] using h.size,h.defers,fun t u hu=>?_,h.base,h.own,h.free,h.apart,h.facts,h.tlt⟩;simp only [lk] at hu;by_cases e:d=t
 ·subst e;rw [show Nat.beq d d=true from by simp] at hu;simp only [cond_true,cw] at hu;subst hu;simp [Act.put,h.size,hd]
 ·rw [QV e] at hu;have:=h.slots t u hu;simp only [Act.put];rw [Array.getElem?_setIfInBounds_ne e]; exact this
theorem St.fact (h:St W M T n G D F a w) (f:co) (hf:f.p (dT T D) w):St W M T n G D (f::F) a w :=
 ⟨h.size,h.defers,h.slots,h.base,h.own,h.free,h.apart,fun g hg=>by rcases bC.1 hg with rfl | hg; exact hf; exact h.facts g hg,h.tlt⟩
theorem St.get (h:St W M T n G D F a w) (i:Nat) {f:co} (hi:F[i]? = some f):f.p (dT T D) w:=h.facts f (az hi)
theorem St.later (h:St W M T n G D F a w) (k:Kt No w w'):St W M T n G D F a w' :=
 ⟨h.size,h.defers,h.slots,h.base.step k (fun _ h=>h.elim),fun r hr=>cZ.keep (h.own r hr) fun j hj=>k.block j (cZ.lt (h.own r hr) j hj) (fun h=>h),h.free,h.apart,
  fun f hf=>f.keep (h.facts f hf) k.no (Nw.refl _ _),fun j hj=>uP (h.tlt j hj) k.size⟩
theorem JR {T:Nat->Prop} {D:List cZ} {r:cZ} {k:Nat}:dT T (r::D) k↔dT T D k∨r.dom k:=by
 unfold dT;simp only [bC,exists_eq_or_imp];constructor
 ·rintro (h | h | h)
  ·exact .inl (.inl h)
  ·exact .inr h
  ·exact .inl (.inr h)
 ·rintro ((h | h) | h)
  ·exact .inl h
  ·exact .inr (.inr h)
  ·exact .inr (.inl h)
theorem St.add (h:St W M T n G D F a w) (k:Kt No w w') (r:cZ) (hr:r.ok w') (hn:∀ k,r.dom k->w.heap.size<=k):St W M T n G (r::D) F a w':=by
 have h':=h.later k;refine⟨h'.size,h'.defers,h'.slots,h'.base,?_,?_,?_,fun f hf=>f.keep (h.facts f hf) k.no (fun j hj=>?_),h'.tlt⟩
 ·intro s hs;rcases bC.1 hs with rfl | hs
  ·exact hr
  ·exact h'.own s hs
 ·intro s hs j hj;rcases bC.1 hs with rfl | hs
  ·have:=hn j hj;refine⟨fun ht=>?_,.inr ?_⟩
   ·have:=h.tlt j ht; omega
   ·have:=h.base.size; omega
  ·exact h'.free s hs j hj
 ·refine jl.2 ⟨fun s hs j hj hj2=>?_,h.apart⟩;have:=hn j hj;have:=cZ.lt (h.own s hs) j hj2;omega
 ·rcases JR.1 hj with h1 | h1
  ·exact .inl h1
  ·exact .inr (hn j h1)
theorem St.alloc (h:St W M T n G D F a w) (cs:bG) (t:TypeId):St W M T n G (.box w.heap.size cs t::D) F a (w.alloc (.cells cs.toArray t)) :=
 h.add (Kt.alloc _ _) _ (heap_alloc_new w _) (fun k O=>by simp only [cZ.dom,cw] at O; omega)
theorem St.turn (h:St W M T n G D F a w) {i:Nat} {r r':cZ} (hi:D[i]? = some r) (k:Kt (fun j=>r.dom j) w w') (hr:r'.ok w') (hd:∀ j,r'.dom j->r.dom j∨w.heap.size<=j) :
  St W M T n G (D.set i r') F a w':=by
 have hmem:=az hi;have hlt:=(bR.1 hi).1;have hne:∀ j s,j≠i->D[j]? = some s->∀ q,s.dom q->¬ r.dom q:=by
  intro j s hj hs q hq hq2;have hjl:=(bR.1 hs).1;have e1:=(bR.1 hs).2;have e2:=(bR.1 hi).2;rcases yX hj with hji | hji
  ·have:=eC.1 h.apart j i hjl hlt hji q (by rw [e1]; exact hq);rw [e2] at this; exact this hq2
  ·have:=eC.1 h.apart i j hlt hjl hji q (by rw [e2]; exact hq2);rw [e1] at this; exact this hq
 have x8:∀ s,s∈D.set i r'->s=r'∨∃ j,j≠i/\D[j]? = some s:=by
  intro s hs;obtain⟨j,hj,e⟩:=IB hs;by_cases hji:i=j
  ·subst hji; rw [List.getElem_set_self] at e; exact .inl e.symm
  ·rw [IC hji] at e;exact .inr ⟨j,fun e=>hji e.symm,by rw [<- e]; exact bh _⟩
 refine⟨h.size,h.defers,h.slots,h.base.step k (fun j hj=>(h.free r hmem j hj).2),?_,?_,?_,fun f hf=>f.keep (h.facts f hf) (k.mono fun j hj=>.inr ⟨r,hmem,hj⟩) (fun j hj=>?_),fun j hj=>uP (h.tlt j hj) k.size⟩
 ·intro s hs;rcases x8 s hs with rfl | ⟨j,hj,hs⟩
  ·exact hr
  ·have ho:=h.own s (az hs);exact cZ.keep ho fun q hq=>k.block q (cZ.lt ho q hq) (hne j s hj hs q hq)
 ·intro s hs q hq;rcases x8 s hs with rfl | ⟨j,hj,hs⟩
  ·rcases hd q hq with h1 | h1
   ·exact h.free r hmem q h1
   ·refine⟨fun ht=>?_,.inr ?_⟩
    ·have:=h.tlt q ht; omega
    ·have:=h.base.size; omega
  ·exact h.free s (az hs) q hq
 ·rw [eC];intro x y hx hy hxy q hq hq2;have hx':x<D.length:=by simpa using hx
  have hy':y<D.length:=by simpa using hy
  have old:∀ z (hz:z<D.length),D[z].dom q->q<w.heap.size:=fun z hz e=>cZ.lt (h.own _ (dG hz)) q e;by_cases h1:i=x
  ·subst h1;rw [List.getElem_set_self] at hq;rw [IC (by omega)] at hq2;rcases hd q hq with h2 | h2
   ·exact hne y _ (by omega) (bh hy') q hq2 h2
   ·have:=old y hy' hq2; omega
  ·by_cases h2:i=y
   ·subst h2;rw [List.getElem_set_self] at hq2;rw [IC h1] at hq;rcases hd q hq2 with h3 | h3
    ·exact hne x _ (by omega) (bh hx') q hq h3
    ·have:=old x hx' hq; omega
   ·rw [IC h1] at hq;rw [IC h2] at hq2;exact eC.1 h.apart x y hx' hy' hxy q hq hq2
 ·rcases hj with hj | ⟨s,hs,hj⟩
  ·exact .inl (.inl hj)
  ·rcases x8 s hs with rfl | ⟨z,hz,hs⟩
   ·rcases hd j hj with h1 | h1
    ·exact .inl (.inr ⟨r,hmem,h1⟩)
    ·exact .inr h1
   ·exact .inl (.inr ⟨s,az hs,hj⟩)
theorem St.res (h:St W M T n G D F a w) {D':List cZ} (hs:∀ r∈D',r∈D) (hp:D'.Pairwise fun r s=>∀ k,r.dom k->¬ s.dom k):St W M T n G D' F a w :=
 ⟨h.size,h.defers,h.slots,h.base,fun r hr=>h.own r (hs r hr),fun r hr=>h.free r (hs r hr),hp,fun f hf=>f.keep (h.facts f hf) (aw _ _) (fun k O=>.inl (by
  rcases O with O | ⟨r,hr,O⟩
  ·exact .inl O
  ·exact .inr ⟨r,hs r hr,O⟩)),h.tlt⟩
theorem St.drop (h:St W M T n G D F a w) (i:Nat):St W M T n G (D.eraseIdx i) F a w :=
 h.res (fun r hr=>Jz hr) (h.apart.sublist (List.eraseIdx_sublist _ _))
def Py (G:List (Nat×Value)):List (Nat×Value)->Prop
 | []=>True
 | p::r=>lk G p.1=some p.2/\Py G r
theorem Py.lk_ {G:List (Nat×Value)}:∀ {G':List (Nat×Value)},Py G G'->∀ t v,lk G' t=some v->lk G t=some v
 | [],_,t,v,hv=>by simp [lk] at hv
 | p::r,h,t,v,hv=>by
  simp only [lk] at hv;by_cases e:p.1=t
  ·subst e;rw [show Nat.beq p.1 p.1=true from by simp] at hv;simp only [cond_true,cw] at hv;subst hv; exact h.1
  ·rw [QV e] at hv;exact Py.lk_ h.2 t v hv
theorem St.slot (h:St W M T n G D F a w) (hs:Py G G'):St W M T n G' D F a w :=
 ⟨h.size,h.defers,fun t v hv=>h.slots t v (hs.lk_ t v hv),h.base,h.own,h.free,h.apart,h.facts,h.tlt⟩
theorem St.sel (h:St W M T n G D F a w) (hs:∀ f∈F',f∈F):St W M T n G D F' a w :=
 ⟨h.size,h.defers,h.slots,h.base,h.own,h.free,h.apart,fun f hf=>h.facts f (hs f hf),h.tlt⟩
theorem St.old (h:St W M T n G D F a w) {k:Nat} (O:dT T D k):T k∨M k∨W.heap.size<=k:=by
 rcases O with h1 | ⟨r,hr,h1⟩
 ·exact .inl h1
 ·exact .inr (h.free r hr k h1).2
theorem St.zf {α:Type} {R:aY α} {v:Value} {e:TypeId} {cl:bG} {xs:List α} (h:St W M T n G D F a w) (i:Nat) (hi:D[i]? = some (.own v e R.size cl)) (j:Nat) (hj:F[j]? = some (au R cl xs)):St W M T n G (D.eraseIdx i) (aT R v xs::F) a w:=by
 have hlt:=(bR.1 hi).1;have hD:=(bR.1 hi).2;obtain⟨ho,hs⟩:=h.own _ (az hi);have hr:bf R (dT T D) w cl xs:=h.get j hj;have h2:=h.drop i;refine h2.fact _ ?_;refine mN.rd hs ho (hr.keep (aw _ _) (fun k O=>.inl ?_)) (fun k O hT=>?_)
 ·rcases O with O | ⟨r,hr,O⟩
  ·exact .inl O
  ·exact .inr ⟨r,Jz hr,O⟩
 ·rcases hT with hT | ⟨s,hs,hT⟩
  ·exact (h.free _ (az hi) k O).1 hT
  ·obtain⟨z,hz⟩:=dt.1 hs;rw [DM] at hz;split at hz
   ·rename_i hzi;have hzl:=(bR.1 hz).1;have:=eC.1 h.apart z i hzl hlt hzi k (by rw [(bR.1 hz).2]; exact hT);rw [hD] at this; exact this O
   ·rename_i hzi;have hzl:=(bR.1 hz).1;have:=eC.1 h.apart i (z+1) hlt hzl (by omega) k (by rw [hD]; exact O);rw [(bR.1 hz).2] at this; exact this hT
end
theorem St.start (W:World) (M T:Nat->Prop) (n:Nat) (vs:bG) (hT:∀ k,T k->k<W.heap.size) (hn:vs.length<=n) (G:List (Nat×Value)) (hG:∀ t v,lk G t=some v->vs[t]? = some v) :
  St W M T n G [] [] { tmps:=vs.toArray++Array.replicate (n-vs.toArray.size) undef,defers:=[] } W:=by
 refine⟨by simp; omega,rfl,fun t v hv=>?_,aw _ _,fun r hr=>(by cases hr),fun r hr=>(by cases hr),sA,fun f hf=>(by cases hf),hT⟩;have h1:=hG t v hv;have h2:=(bR.1 h1).1;simp only [Array.getElem?_append,A2,h2,if_true,List.getElem?_toArray];exact h1
def oz:Nat->bG->List (Nat×Value)
 | _,[]=>[]
 | k,v::r=>(k,v)::oz (k+1) r
theorem B6:∀ (vs:bG) (k t:Nat) (v:Value),lk (oz k vs) t=some v->k<=t/\vs[t-k]? = some v
 | [],k,t,v,h=>by simp [oz,lk] at h
 | u::r,k,t,v,h=>by
  simp only [oz,lk] at h;by_cases e:k=t
  ·subst e;rw [show Nat.beq k k=true from by simp] at h;simp only [cond_true,cw] at h;subst h; simp
  ·rw [QV e] at h;obtain⟨h1,h2⟩:=B6 r (k+1) t v h;refine⟨by omega,?_⟩;rw [show t-k=(t-(k+1))+1 by omega,DL]; exact h2
def bm (P:Program) (M:Nat->Prop) (f:FuncId) (args:bG) (w:World) (R:Value->World->Prop):Prop :=
 Calls P f args.toArray w fun e w'=>∃ v,e = .returned v/\Kt M w w'/\R v w'
theorem bm.mono {P:Program} {M:Nat->Prop} {f:FuncId} {args:bG} {w:World} {R R':Value->World->Prop} (h:bm P M f args w R) (C:∀ v w',R v w'->R' v w'):bm P M f args w R' :=
 Calls.mono h fun e w' ⟨v,h1,h2,h3⟩=>⟨v,h1,h2,C v w' h3⟩
def RL (M:Nat->Prop) (W:World) (R:Value->World->Prop):Ending->World->Prop:=fun e w'=>∃ v,e = .returned v/\Kt M W w'/\R v w'
theorem enter {P:Program} {M:Nat->Prop} {f:FuncId} {fn:Func} {c:Code} {args:bG} {w:World} {R:Value->World->Prop} (hf:P.funcs[f]? = some fn) (hb:fn.body=some c)
  (T:Nat->Prop) (n:Nat) (hn:fn.ntmps=n) (hT:∀ k,T k->k<w.heap.size) (hl:Nat.ble args.length n=true)
  (h:∀ a,St w M T n (oz 0 args) [] [] a w->c.wp P (bodyPost P fn (RL M w R)) a w):bm P M f args w R:=by
 refine calls_of_wp hf hb (h _ ?_);subst hn;exact St.start w M T _ args hT (fw hl) _ fun t v hv=>by
  obtain⟨h1,h2⟩:=B6 args 0 t v hv;simpa using h2
end
section
open Go.RowKit
variable {Q:Exit->Act->World->Prop} {ag:Bool} {b:Nat} {c:Bool} {d:Option Nat} {e:TypeId} {f j:Nat} {o:Oper} {ops:Array Oper} {p q:Int} {rest:List Oper} {s t t' ty:TypeId} {us:bG} {v:Value} {want:Bool} {x y:Operand} {z:Nat}
variable {pos:String} {af:Array Edge} {g:Option (Nat×Bool)}
def ev (G:List (Nat×Value)):Operand->Option Value
 | .tmp t=>lk G t
 | .const v=>some v
 | .func f=>some (.func (.func f) #[] #[])
 | .global g=>some (.pointer (some ⟨g,0,none⟩))
def evs (G:List (Nat×Value)):List Operand->Option (bG)
 | []=>some []
 | x::r=>match ev G x with
  | some v=>match evs G r with
   | some vs=>some (v::vs)
   | none=>none
  | none=>none
def t8 (P:Program) (o:Oper) (a:Act) (w:World) (K:Act->World->Prop):Prop:=∀ (K':Act->World->Prop) (Q:Exit->Act->World->Prop),(∀ a w,K a w->K' a w)->o.wp P a w K' Q
def Ye (P:Program) (o:Oper) (a:Act) (E:Nat->Prop) (w:World) (v:Value):Prop:=∀ w',Kt E w w'->(execOp a.eval o).run P w' = .ok (.value v) w'
def qZ (P:Program) (t:TypeId):Option (Bool×Nat) :=
 match P.underlying t,P.info? t with
 | some (.struct _),some i=>some (true,i.size)
 | some (.array _ _),some i=>some (true,i.size)
 | some _,some i=>some (false,i.size)
 | _,_=>none
def KW (P:Program) (s:TypeId) (f:Nat):Option Nat :=
 match P.underlying s with
 | some (.struct fs)=>match fs[f]? with
  | some d=>match P.info? d.type with
   | some i=>if i.size=0 then none else some d.offset
   | none=>none
  | none=>none
 | _=>none
section
variable {P:Program} {W:World} {M T E:Nat->Prop} {n:Nat} {G G':List (Nat×Value)} {D D':List cZ} {F F':List co} {a:Act} {w w':World} {K:Act->World->Prop}
theorem St.ev (h:St W M T n G D F a w) (hx:ev G x=some v):a.eval x=v:=by
 cases x with
 | tmp t =>
  have:=h.slots t v hx;simp [Act.eval,Rs,this]
 | const u=>simp only [Proofs.YtllbbcgnnoonoaaGreatDoor.ev,cw] at hx; exact hx
 | func f=>simp only [Proofs.YtllbbcgnnoonoaaGreatDoor.ev,cw] at hx; exact hx
 | global g=>simp only [Proofs.YtllbbcgnnoonoaaGreatDoor.ev,cw] at hx; exact hx
theorem St.evs (h:St W M T n G D F a w):∀ {xs:List Operand} {vs:bG},evs G xs=some vs->xs.map a.eval=vs
 | [],vs,hx=>by simp only [Proofs.YtllbbcgnnoonoaaGreatDoor.evs,cw] at hx; subst hx; rfl
 | x::r,vs,hx=>by
  simp only [Proofs.YtllbbcgnnoonoaaGreatDoor.evs] at hx;cases h1:Proofs.YtllbbcgnnoonoaaGreatDoor.ev G x with
  | none=>rw [h1] at hx; cases hx
  | some v =>
   cases h2:Proofs.YtllbbcgnnoonoaaGreatDoor.evs G r with
   | none=>rw [h1,h2] at hx; cases hx
   | some us =>
    rw [h1,h2] at hx;simp only [cw] at hx;subst hx;rw [vw,h.ev h1,h.evs h2]
theorem wl (hg:o.guard=none) (h:t8 P o a w (wpList P ops Q rest)):wpList P ops Q (o::rest) a w :=
 wpList_plain hg fun K hK=>h K Q hK
theorem tj {t:Nat} (h:St W M T n G D F a w) (hg:o.guard=some (j,want)) (hj:(ops[j]?).bind (·.dst)=some t) (ht:lk G t=some (.bool c)):Region.wanted o (yielded ops a.tmps)=(c==want):=by
 have h1:=h.slots t _ ht;unfold Region.wanted yielded;rw [hg];simp only [hj,al,h1];cases c <;> cases want <;> rfl
theorem wg {t:Nat} (I:St W M T n G D F a w) (hg:o.guard=some (j,want)) (hj:(ops[j]?).bind (·.dst)=some t) (ht:lk G t=some (.bool c)) (hc:c=want) (h:t8 P o a w (wpList P ops Q rest)):wpList P ops Q (o::rest) a w :=
 wpList_step fun K hK=>by rw [if_pos (by rw [tj I hg hj ht,hc]; simp)]; exact h K Q hK
theorem wn {t d:Nat} (I:St W M T n G D F a w) (hg:o.guard=some (j,want)) (hj:(ops[j]?).bind (·.dst)=some t) (ht:lk G t=some (.bool c)) (hc:c = !want) (hd:o.dst=some d) (hn:Nat.blt d n=true)
  (h:∀ a,St W M T n ((d,undef)::G) D F a w->wpList P ops Q rest a w):wpList P ops Q (o::rest) a w :=
 wpList_step fun K hK=>by rw [if_neg (by rw [tj I hg hj ht,hc]; cases want <;> simp)]; rw [hd]; exact hK _ _ (h _ (I.put hn _))
theorem WB {t d:Nat} (I:St W M T n G D F a w) (hg:o.guard=some (j,want)) (hj:(ops[j]?).bind (·.dst)=some t) (ht:lk G t=some undef) (hd:o.dst=some d) (hn:Nat.blt d n=true)
  (h:∀ a,St W M T n ((d,undef)::G) D F a w->wpList P ops Q rest a w):wpList P ops Q (o::rest) a w :=
 wpList_step fun K hK=>by
  have h1:=I.slots t _ ht;have h2:Region.wanted o (yielded ops a.tmps)=false:=by
   unfold Region.wanted yielded;rw [hg];simp only [hj,al,h1];rfl
  rw [if_neg (by rw [h2]; simp),hd]; exact hK _ _ (h _ (I.put hn _))
theorem Ye.k (h:Ye P o a E w v):t8 P o a w (fun a' w'=>a'=a.put o.dst v/\w'=w):=fun K' Q hK=>by
 unfold Oper.wp;rw [h w (aw _ _),Oper.upon_value];exact hK _ _ ⟨rfl,rfl⟩
theorem t8.mono {K':Act->World->Prop} (h:t8 P o a w K) (O:∀ a w,K a w->K' a w):t8 P o a w K':=fun K2 Q h2=>h K2 Q fun a w ha=>h2 a w (O a w ha)
theorem ky {d:Nat} (I:St W M T n G D F a w) (h:Ye P o a No w v) (hd:o.dst=some d) (hn:Nat.blt d n=true) (k:∀ a,St W M T n ((d,v)::G) D F a w->K a w):t8 P o a w K :=
 h.k.mono fun a' w' ⟨h1,h2⟩=>by subst h1 h2; rw [hd]; exact k _ (I.put hn v)
theorem wy {d:Nat} (I:St W M T n G D F a w) (h:Ye P o a No w v) (hg:o.guard=none) (hd:o.dst=some d) (hn:Nat.blt d n=true) (k:∀ a,St W M T n ((d,v)::G) D F a w->wpList P ops Q rest a w):wpList P ops Q (o::rest) a w :=
 wl hg (ky I h hd hn k)
theorem Ye.of (h:∀ w,(execOp a.eval o).run P w = .ok (.value v) w):Ye P o a E w v:=fun w' _=>h w'
theorem Rp (I:St W M T n G D F a w) (hx:ev G x=some v):Ye P ⟨d,.move x,ty,pos,af,g⟩ a E w v :=
 Ye.of fun w=>by simp only [execOp,Sem.run_pure,I.ev hx]
theorem NO (I:St W M T n G D F a w) (hx:ev G x=some v):Ye P ⟨d,.assign x,ty,pos,af,g⟩ a E w v :=
 Ye.of fun w=>by simp only [execOp,Sem.run_pure,I.ev hx]
theorem Pk {c:Operand} {b:Bool} (I:St W M T n G D F a w) (hc:ev G c=some (.bool b)) (hb:b=true) (hv:ev G x=some v):Ye P ⟨d,.pick c x y,ty,pos,af,g⟩ a E w v :=
 Ye.of fun w=>by simp [execOp,I.ev hc,I.ev hv,asBool,hb]
theorem Pj {c:Operand} {b:Bool} (I:St W M T n G D F a w) (hc:ev G c=some (.bool b)) (hb:b=false) (hv:ev G y=some v):Ye P ⟨d,.pick c x y,ty,pos,af,g⟩ a E w v :=
 Ye.of fun w=>by simp [execOp,I.ev hc,I.ev hv,asBool,hb]
def QN:BinOp->IntKind->Int->Int->Option Value
 | .add,k,x,y=>some (.int k (k.wrap (x+y)))
 | .sub,k,x,y=>some (.int k (k.wrap (x-y)))
 | .mul,k,x,y=>some (.int k (k.wrap (x*y)))
 | .eql,_,x,y=>some (.bool (x==y))
 | .neq,_,x,y=>some (.bool (x != y))
 | .lss,_,x,y=>some (.bool (decide (x<y)))
 | .leq,_,x,y=>some (.bool (decide (x<=y)))
 | .gtr,_,x,y=>some (.bool (decide (y<x)))
 | .geq,_,x,y=>some (.bool (decide (y<=x)))
 | _,_,_,_=>none
theorem TZ {op:BinOp} {k:IntKind} (I:St W M T n G D F a w)
  (hx:ev G x=some (.int k p)) (hy:ev G y=some (.int k q)) (hv:QN op k p q=some v):Ye P ⟨d,.binOp op t x y t',ty,pos,af,g⟩ a E w v :=
 Ye.of fun w=>by
  have h1:=I.ev hx;have h2:=I.ev hy;cases op <;> simp only [QN,cw,reduceCtorEq] at hv <;> subst hv <;> simp [execOp,h1,h2,eqGuard,binOp,Op.intArith,Op.intCmp]
theorem Dw {k:IntKind} (I:St W M T n G D F a w)
  (hx:ev G x=some (.int k p)) (hy:ev G y=some (.int k q)) (hq:q≠0):Ye P ⟨d,.binOp .rem t x y t',ty,pos,af,g⟩ a E w (.int k (p.tmod q)) :=
 Ye.of fun w=>by
  have h1:=I.ev hx;have h2:=I.ev hy;simp [execOp,h1,h2,eqGuard,binOp,Op.intDiv,hq]
theorem T6 {k:IntKind} (I:St W M T n G D F a w)
  (hx:ev G x=some (.int k p)) (hy:ev G y=some (.int k q)) (hq:q≠0):Ye P ⟨d,.binOp .quo t x y t',ty,pos,af,g⟩ a E w (.int k (k.wrap (p.tdiv q))) :=
 Ye.of fun w=>by
  have h1:=I.ev hx;have h2:=I.ev hy;simp [execOp,h1,h2,eqGuard,binOp,Op.intDiv,hq]
def Ra:BinOp->ByteArray->ByteArray->Option Value
 | .eql,x,y=>some (.bool (x.toList==y.toList))
 | .neq,x,y=>some (.bool !(x.toList==y.toList))
 | .lss,x,y=>some (.bool (Op.bytesLess x.toList y.toList))
 | .gtr,x,y=>some (.bool !(Op.bytesLess x.toList y.toList||x.toList==y.toList))
 | _,_,_=>none
theorem T7 {op:BinOp} {p q:ByteArray} (I:St W M T n G D F a w)
  (hx:ev G x=some (.string p)) (hy:ev G y=some (.string q)) (hv:Ra op p q=some v):Ye P ⟨d,.binOp op t x y t',ty,pos,af,g⟩ a E w v :=
 Ye.of fun w=>by
  have h1:=I.ev hx;have h2:=I.ev hy;cases op <;> simp only [Ra,cw,reduceCtorEq] at hv <;> subst hv <;> simp [execOp,h1,h2,eqGuard,binOp,Op.stringOp]
theorem wA {p q:ByteArray} (I:St W M T n G D F a w)
  (hx:ev G x=some (.string p)) (hy:ev G y=some (.string q)) (hz:p.size+q.size<=140737488355328):Ye P ⟨d,.binOp .add t x y t',ty,pos,af,g⟩ a E w (.string (p++q)) :=
 Ye.of fun w=>by
  have h1:=I.ev hx;have h2:=I.ev hy;have h3:¬ (((p.size+q.size:Nat):Int)>IntKind.i64.max):=by
   have:IntKind.i64.max=9223372036854775807:=rfl;omega
  simp only [execOp,h1,h2,eqGuard,binOp,Op.stringOp,if_neg h3];simp
theorem T5 {b:Bool} (I:St W M T n G D F a w) (hx:ev G x=some (.bool b)):Ye P ⟨d,.unOp .not t x,ty,pos,af,g⟩ a E w (.bool !b) :=
 Ye.of fun w=>by simp [execOp,I.ev hx,Op.unary]
theorem T3 {k:IntKind} (I:St W M T n G D F a w) (hx:ev G x=some (.int k p)):Ye P ⟨d,.unOp .neg t x,ty,pos,af,g⟩ a E w (.int k (k.wrap (0-p))) :=
 Ye.of fun w=>by simp [execOp,I.ev hx,Op.unary,Op.intArith]
theorem Vq {i:Nat} {vs:Array Value} (I:St W M T n G D F a w) (hx:ev G x=some (.tuple vs)) (hv:vs[i]? = some v):Ye P ⟨d,.extract x i,ty,pos,af,g⟩ a E w v :=
 Ye.of fun w=>by simp [execOp,I.ev hx,Instr.extract,hv]
theorem T4 {p:Addr} (I:St W M T n G D F a w) (hx:ev G x=some (.pointer (some p))):Ye P ⟨d,.nilCheck x,ty,pos,af,g⟩ a E w (.pointer (some p)) :=
 Ye.of fun w=>by simp [execOp,I.ev hx]
def mr (P:Program) (t:TypeId):Option TypeId:=match P.underlying t with
 | some (.slice e)=>some e
 | _=>none
theorem tF (h:mr P t=some e):P.underlying t=some (.slice e):=by
 unfold mr at h;split at h
 ·rename_i e' h1; injection h with h; subst h; exact h1
 ·cases h
theorem Jy {m:Nat} (I:St W M T n G D F a w) (ht:mr P t=some e) (hx:ev G x=some v) (hv:∃ A c,v = .slice A m c):Ye P ⟨d,.call { callee:=.builtin .len,args:=#[x],argTypes:=#[t] },ty,pos,af,g⟩ a E w (.int .i64 m) :=
 Ye.of fun w=>by
  obtain⟨A,c,rfl⟩:=hv;have h1:=I.ev hx;simp [execOp,resolve,invoke,builtin,h1,Builtin.len_,run_underlying (tF ht),goInt]
theorem T0 {α:Type} {R:aY α} {xs:List α} (I:St W M T n G D F a w) (ht:mr P t=some e) (hx:ev G x=some v) (i:Nat) (hi:F[i]? = some (aT R v xs)):Ye P ⟨d,.call { callee:=.builtin .len,args:=#[x],argTypes:=#[t] },ty,pos,af,g⟩ a E w (.int .i64 xs.length) :=
 Jy I ht hx (by obtain⟨A,c,e,_⟩:=aQ.len (I.get i hi); exact⟨A,c,e⟩)
theorem OU {B sz:Nat} {cl:bG} (h:mN w B e sz v cl) (hs:0<sz) {m:Nat} (hm:cl.length=m*sz):∃ A c,v = .slice A m c:=by
 obtain⟨A,k,c,rfl,h1,_⟩:=h.form hs;have:k=m:=yY hs (h1.symm.trans hm);subst this;exact⟨A,c,rfl⟩
theorem Rl {α:Type} {R:aY α} {xs:List α} {cl:bG} {e':TypeId} (I:St W M T n G D F a w) (ht:mr P t=some e) (hx:ev G x=some v) (j:Nat) (hj:D[j]? = some (.own v e' R.size cl)) (i:Nat) (hi:F[i]? = some (au R cl xs)):Ye P ⟨d,.call { callee:=.builtin .len,args:=#[x],argTypes:=#[t] },ty,pos,af,g⟩ a E w (.int .i64 xs.length) :=
 Jy I ht hx (by obtain⟨h1,h2⟩:=I.own _ (az hj); exact OU h1 h2 (I.get i hi:bf R _ w cl xs).1)
theorem Ro {s:ByteArray} (I:St W M T n G D F a w) (ht:P.underlying t=some .string) (hx:ev G x=some (.string s)):Ye P ⟨d,.call { callee:=.builtin .len,args:=#[x],argTypes:=#[t] },ty,pos,af,g⟩ a E w (.int .i64 s.size) :=
 Ye.of fun w=>by
  have h1:=I.ev hx;simp [execOp,resolve,invoke,builtin,h1,Builtin.len_,run_underlying ht,goInt]
theorem Lk {k:Nat} {o:Nat} (hf:KW P s f=some k) (w:World):(Instr.fieldAt s (.pointer (some ⟨b,o,none⟩)) f).run P w = .ok (.pointer (some ⟨b,o+k,none⟩)) w:=by
 unfold KW at hf;split at hf
 ·rename_i fs hu;split at hf
  ·rename_i fd hfd;split at hf
   ·rename_i i hi;split at hf
    ·cases hf
    ·rename_i hz;injection hf with hf;subst hf;have hsz:(sizeOf fd.type).run P w = .ok i.size w:=by simp [sizeOf,typeInfo,hi]
     have hadd:Addr.add ⟨b,o,none⟩ fd.offset=⟨b,o+fd.offset,none⟩:=by
      unfold Addr.add;split
      ·rename_i h0; rw [h0]; rfl
      ·rfl
     simp [Instr.fieldAt,run_underlying hu,hfd,Instr.sureAddr,fieldPlace,hsz,hz,hadd]
   ·cases hf
  ·cases hf
 ·cases hf
theorem TY {k:Nat} {o:Nat} (I:St W M T n G D F a w) (hx:ev G x=some (.pointer (some ⟨b,o,none⟩))) (hf:KW P s f=some k):Ye P ⟨d,.fieldAddr s x f,ty,pos,af,g⟩ a E w (.pointer (some ⟨b,o+k,none⟩)) :=
 Ye.of fun w=>by simp [execOp,I.ev hx,Lk hf]
theorem xY {b:Bool} (h:qZ P t=some (b,z)) (w:World):(isAgg t).run P w = .ok b w:=by
 unfold qZ at h;split at h
 all_goals first | (cases h; done) | skip
 all_goals
  rename_i hu hi;simp only [cw,y4] at h;obtain⟨rfl,_⟩:=h;simp [isAgg,run_underlying hu]
theorem sv {b:Bool} (h:qZ P t=some (b,z)) (w:World):(sizeOf t).run P w = .ok z w:=by
 unfold qZ at h;split at h
 all_goals first | (cases h; done) | skip
 all_goals
  rename_i hu hi;simp only [cw,y4] at h;obtain⟨_,rfl⟩:=h;simp [sizeOf,typeInfo,hi]
theorem oy (b o k:Nat):Addr.add ⟨b,o,none⟩ k=⟨b,o+k,none⟩:=by
 unfold Addr.add;split
 ·rename_i h0; rw [h0]; rfl
 ·rfl
theorem Aa {b o:Nat}:∀ (m:Nat) (us:bG) (i:Nat) (acc:Array Value) (w:World),us.length=m->(∀ j u,us[j]? = some u->w.cell? ⟨b,o+i+j,none⟩=some u)->(loadCellsFrom ⟨b,o,none⟩ i m acc).run P w = .ok (acc++us.toArray) w
 | 0,us,i,acc,w,hl,_=>by
  obtain rfl:=DJ hl;simp [loadCellsFrom]
 | m+1,us,i,acc,w,hl,hc=>by
  cases us with
  | nil=>simp at hl
  | cons u r =>
   have h0:=hc 0 u rfl;have ih:=Aa m r (i+1) (acc.push u) w (by simpa using hl) (fun j v hv=>by have:=hc (j+1) v (by simpa using hv); rwa [show o+i+(j+1)=o+(i+1)+j by omega] at this);rw [mz] at h0;simp [loadCellsFrom,oy,h0,load,ih,Sem.run]
theorem EX {o:Nat} (ht:qZ P t=some (ag,z)) (hl:us.length=z) (hv:v=cond ag (.agg us.toArray) (us.getD 0 undef)) (hz:ag=false->z=1) (w:World) (hc:∀ j u,us[j]? = some u->w.cell? ⟨b,o+j,none⟩=some u):(loadVar t ⟨b,o,none⟩).run P w = .ok v w:=by
 cases ag with
 | true =>
  have:=Aa (P:=P) (b:=b) (o:=o) z us 0 #[] w hl (fun j u hu=>by rw [mz]; exact hc j u hu);rw [hv];simp [loadVar,xY ht,sv ht,loadCells,this]
 | false =>
  have h1:=hz rfl;subst h1;cases us with
  | nil=>simp at hl
  | cons u r =>
   have h0:=hc 0 u rfl;rw [hv];rw [mz] at h0;simp [loadVar,xY ht,load,h0,Sem.run]
def bF (ag:Bool) (us:bG):Value:=cond ag (.agg us.toArray) (us.getD 0 undef)
theorem yQ {o:Nat} (ht:qZ P t=some (ag,z)) (hl:us.length=z) (hz:ag=false->z=1) (w:World) (hc:∀ j u,us[j]? = some u->w.cell? ⟨b,o+j,none⟩=some u):(Instr.loadAt t (.pointer (some ⟨b,o,none⟩))).run P w = .ok (bF ag us) w:=by
 simp [Instr.loadAt,Instr.sureAddr,EX ht hl rfl hz w hc,bF]
theorem ou {o:Nat} {cs:bG} {bt:TypeId} (I:St W M T n G D F a w) (hx:ev G x=some (.pointer (some ⟨b,o,none⟩))) (ht:qZ P t=some (ag,z)) (i:Nat) (hi:D[i]? = some (.box b cs bt)) (hE:¬ E b)
  (hu:(cs.drop o).take z=us) (hl:us.length=z) (hz:ag=false->z=1):Ye P ⟨d,.load t x,ty,pos,af,g⟩ a E w (bF ag us):=fun w' O=>by
 have hr:w.heap[b]? = some (.cells cs.toArray bt (0,0)):=I.own _ (az hi);have hr':=(O.block b (A7.1 hr).1 hE).trans hr;have:=yQ (P:=P) (b:=b) (o:=o) ht hl hz w' (fun j u hj=>by
  rw [cell_of_row _ _ _ _ _ _ hr',List.getElem?_toArray];rw [<- hu,pY] at hj;split at hj
  ·rw [qT] at hj; exact hj
  ·cases hj)
 simp [execOp,I.ev hx,this]
theorem x5 {o k:Nat} {cs:bG} (I:St W M T n G D F a w) (ht:qZ P t=some (ag,z)) (i:Nat) (hi:F[i]? = some (bS b o cs)) (hx:ev G x=some (.pointer (some ⟨b,o+k,none⟩))) (hE:∀ j,E j->dT T D j∨w.heap.size<=j)
  (hu:(cs.drop k).take z=us) (hl:us.length=z) (hz:ag=false->z=1):Ye P ⟨d,.load t x,ty,pos,af,g⟩ a E w (bF ag us):=fun w' O=>by
 have hc:p9 (dT T D) w b o cs:=I.get i hi;have hk2:Kt (dT T D) w w':=⟨O.os,O.tape,O.output,O.size,fun j hj hn=>O.block j hj fun he=>(hE j he).elim hn fun h=>by omega⟩;have hc':=(hc.keep hk2 (Nw.refl _ _)).sub (ds:=us) k (fun j u hj=>by
  rw [<- hu,pY] at hj;split at hj
  ·rw [qT] at hj; exact hj
  ·cases hj)
 have:=yQ (P:=P) (b:=b) (o:=o+k) ht hl hz w' hc'.2.2;simp [execOp,I.ev hx,this]
theorem Dv {cs:Array Value} {k:Nat} {fs:Array Field} {fd:Field} (I:St W M T n G D F a w) (hx:ev G x=some (.agg cs)) (hs:P.underlying s=some (.struct fs)) (hf:fs[f]? = some fd) (O:fd.offset=k) (ht:qZ P fd.type=some (ag,z))
  (hu:(cs.toList.drop k).take z=us) (hl:us.length=z) (hz:ag=false->z=1):Ye P ⟨d,.field s x f,ty,pos,af,g⟩ a E w (bF ag us) :=
 Ye.of fun w=>by
  have h1:=I.ev hx;subst O;have hp:(part fd.type cs fd.offset).run P w = .ok (bF ag us) w:=by
   cases ag with
   | true =>
    have:cs.extract fd.offset (fd.offset+z)=us.toArray:=by
     rw [<- hu];apply Dx.1;rw [Array.toList_extract,List.extract_eq_take_drop];simp
    simp [part,xY ht,sv ht,this,bF]
   | false =>
    have h1:=hz rfl;subst h1;have:cs[fd.offset]? = some (us.getD 0 undef):=by
     rw [<- hu] at hl ⊢;rw [gQ,sL] at hl;have hlt:fd.offset<cs.toList.length:=by omega
     rw [<- Ps,bh hlt];simp [NU,pY,qT,bh hlt]
    simp [part,xY ht,this,bF]
  simp [execOp,h1,Instr.field,run_underlying hs,hf,asAgg,hp]
theorem A0 {k:IntKind} {i:Int} {p:ByteArray} {c:UInt8} (I:St W M T n G D F a w) (hs:P.underlying s=some .string) (hx:ev G x=some (.string p)) (hy:ev G y=some (.int k i)) (hc:bp p.toList i=some c):Ye P ⟨d,.index s x y,ty,pos,af,g⟩ a E w (.int .u8 c.toNat) :=
 Ye.of fun w=>by
  have h1:=I.ev hx;have h2:=I.ev hy;obtain⟨q1,q2,q3⟩:=pJ hc;have h3:p[i.toNat]? = some c:=by
   rw [ByteArray.toList_eq,Ps] at q3;rw [<- q3]; rfl
  simp [execOp,h1,h2,Instr.index,asIntOf,run_underlying hs,q1,h3]
end
end
section
open Go.RowKit
variable {cs:bG} {t ty:TypeId} {v:Value}
variable {pos:String} {af:Array Edge} {g:Option (Nat×Bool)}
def gR (P:Program) (t:TypeId):Option (bG):=match P.info? t with
 | some i=>match i.zero with
  | some z=>some z.cells.toList
  | none=>none
 | none=>none
def sF (cs:bG) (o:Nat) (us:bG):bG:=cs.take o++us++cs.drop (o+us.length)
def EB (pl:List (Nat×Nat)) (cs:bG):List (Nat×Value)->List (bG)->Option (bG)
 | [],[]=>some cs
 | p::r,u::s=>match pl[p.1]? with
  | some q=>cond (Nat.beq u.length q.2&&Nat.ble (q.1+q.2) cs.length) (EB pl (sF cs q.1 u) r s) none
  | none=>none
 | _,_=>none
def Cs:List (Nat×Value)->List (bG)->Prop
 | [],[]=>True
 | p::r,u::s=>p.2.cells.toList=u/\Cs r s
 | _,_=>False
theorem vD (h:v.oneCell'=true):v.cells.toList=[v]:=by cases v <;> first | rfl | cases h
def EQ (P:Program) (t:TypeId):Option (List (Nat×Nat)):=match P.underlying t with
 | some (.struct fs)=>fs.toList.mapM fun f=>(P.info? f.type).map fun i=>(f.offset,i.size)
 | _=>none
def evp (G:List (Nat×Value)):List (Nat×Operand)->Option (List (Nat×Value))
 | []=>some []
 | p::r=>match ev G p.2 with
  | some v=>match evp G r with
   | some vs=>some ((p.1,v)::vs)
   | none=>none
  | none=>none
theorem H6:∀ (us:bG) (o k:Nat) (cs:Array Value),o+k+us.length<=cs.size->((us.zipIdx k).foldl (fun cs x=>cs.setIfInBounds (o+x.2) x.1) cs).toList=cs.toList.take (o+k)++us++cs.toList.drop (o+k+us.length)
 | [],o,k,cs,h=>by simp
 | u::r,o,k,cs,h=>by
  simp only [dx] at h;rw [List.zipIdx_cons,IA,H6 r o (k+1) _ (by simp; omega)];simp only [Array.toList_setIfInBounds,dx];apply Ix;intro j;have hl:cs.toList.length=cs.size:=by simp
  simp only [KB,br,gQ,Fj,pY,DN,qT,dx];rw [hl];rw [show min (o+(k+1)) cs.size=o+k+1 by omega,show min (o+k) cs.size=o+k by omega];by_cases h1:j<o+k
  ·simp [h1,show j<o+k+1+r.length by omega,show j<o+(k+1) by omega,show j<o+k+1 by omega,show j<o+k+(r.length+1) by omega,show ¬ o+k=j by omega]
  ·by_cases h2:j=o+k
   ·subst h2;simp [show o+k<o+k+1+r.length by omega,show o+k<o+(k+1) by omega,show o+k<cs.size by omega]
   ·by_cases h3:j<o+k+1+r.length
    ·simp [h1,h3,show ¬ j<o+k+1 by omega,show j<o+k+(r.length+1) by omega];rw [show j-(o+k)=(j-(o+k+1))+1 by omega,DL]
    ·simp [h3,show ¬ j<o+k+1 by omega,show ¬ j<o+k+(r.length+1) by omega,show ¬ o+k=o+(k+1)+r.length+(j-(o+k+1+r.length)) by omega];congr 1; omega
theorem FK {place:Nat->Option (Nat×Nat)} {pl:List (Nat×Nat)} (hp:∀ i q,pl[i]? = some q->place i=some q):∀ (parts:List (Nat×Value)) (us:List (bG)) (cs ws:bG),Cs parts us->EB pl cs parts us=some ws->Instr.fill place cs.toArray parts=some ws.toArray
 | [],[],cs,ws,_,h=>by simp only [EB,cw] at h; subst h; rfl
 | [],_::_,_,_,h,_=>h.elim
 | _::_,[],_,_,h,_=>h.elim
 | (i,v)::r,u::s,cs,ws,hc0,h=>by
  obtain⟨hu,hc1⟩:=hc0;simp only at hu;subst hu;simp only [EB] at h;cases hq:pl[i]? with
  | none=>rw [hq] at h; cases h
  | some q =>
   obtain⟨off,size⟩:=q;rw [hq] at h;simp only at h;cases hc:(Nat.beq v.cells.toList.length size&&Nat.ble (off+size) cs.length) with
   | false=>rw [hc] at h; cases h
   | true =>
    rw [hc] at h;simp only [cond_true] at h;simp only [lq] at hc;have h1:v.cells.size=size:=by have:=xC hc.1; simpa using this
    have h2:off+size<=cs.length:=fw hc.2;have ih:=FK hp r s _ ws hc1 h;have e:(v.cells.zipIdx.foldl (fun cs x=>cs.setIfInBounds (off+x.2) x.1) cs.toArray)=(sF cs off v.cells.toList).toArray:=by
     apply Dx.1;rw [<- Array.foldl_toList,Array.toList_zipIdx,H6 _ off 0 _ (by simp; omega)];simp [sF]
    have h3:¬ (v.cells.size≠size||decide (off+v.cells.size>cs.toArray.size))=true:=by simp [h1]; omega
    simp only [Instr.fill,hp i _ hq];simp only [ne_eq,decide_not,wB,sw,decide_eq_false_iff_not,decide_eq_true_eq] at h3 ⊢;rw [if_neg h3];rw [<- ih];congr 1
section
variable {P:Program} {W:World} {M T E:Nat->Prop} {n:Nat} {G G':List (Nat×Value)} {D D':List cZ} {F F':List co} {a:Act} {w w':World} {K:Act->World->Prop}
theorem Aw {o:Oper} {w':World} (h:(execOp a.eval o).run P w = .ok (.value v) w') (O:K (a.put o.dst v) w'):t8 P o a w K:=fun K' Q hK=>by
 unfold Oper.wp;rw [h,Oper.upon_value];exact hK _ _ O
theorem HH {o:Oper} {w':World} (h:(execOp a.eval o).run P w = .ok .skip w') (O:K (a.put o.dst undef) w'):t8 P o a w K:=fun K' Q hK=>by
 unfold Oper.wp;rw [h,Oper.upon_skip];exact hK _ _ O
theorem A9 (h:gR P t=some cs) (w:World):∃ z:Value,z.cells.toList=cs/\(zeroValue t).run P w = .ok z w:=by
 unfold gR at h;split at h
 ·rename_i i hi;split at h
  ·rename_i z hz;injection h with h;exact⟨z,h,by simp [zeroValue,typeInfo,hi,hz]⟩
  ·cases h
 ·cases h
theorem gH {d:Nat} (I:St W M T n G D F a w) (hz:gR P t=some cs) (hn:Nat.blt d n=true)
  (k:∀ b,w.heap.size<=b->∀ a w',Kt No w w'->St W M T n ((d,.pointer (some ⟨b,0,none⟩))::G) (.box b cs t::D) F a w'->K a w'):t8 P ⟨some d,.alloc t,ty,pos,af,g⟩ a w K:=by
 obtain⟨z,hz1,hz2⟩:=A9 hz w;have hr:(execOp a.eval ⟨some d,.alloc t,ty,pos,af,g⟩).run P w = .ok (.value (.pointer (some ⟨w.heap.size,0,none⟩))) (w.alloc (.cells cs.toArray t)):=by
  subst hz1;simp [execOp,Instr.alloc,hz2,newVar,newRow]
 exact Aw hr (k w.heap.size (bx _) _ _ (Kt.alloc _ _) ((I.alloc cs t).put hn _))
theorem HC {d:Nat} {x:Operand} (I:St W M T n G D F a w) (hx:ev G x=some v) (hv:v.cells.toList=cs) (hn:Nat.blt d n=true)
  (k:∀ b,w.heap.size<=b->∀ a w',Kt No w w'->St W M T n ((d,.pointer (some ⟨b,0,none⟩))::G) (.box b cs t::D) F a w'->K a w'):t8 P ⟨some d,.box t x,ty,pos,af,g⟩ a w K:=by
 have hr:(execOp a.eval ⟨some d,.box t x,ty,pos,af,g⟩).run P w = .ok (.value (.pointer (some ⟨w.heap.size,0,none⟩))) (w.alloc (.cells cs.toArray t)):=by
  subst hv;simp [execOp,Instr.box,I.ev hx,newVar,newRow]
 exact Aw hr (k w.heap.size (bx _) _ _ (Kt.alloc _ _) ((I.alloc cs t).put hn _))
theorem Eh {ag:Bool} {z:Nat} (ht:qZ P t=some (ag,z)) {b o:Nat} {cs:Array Value} {bt:TypeId} (hr:w.heap[b]? = some (.cells cs bt (0,0))) (hz:v.cells.toList.length=z) (hl:o+z<=cs.size) (h1:∀ u∈v.cells.toList,u.oneCell'=true) :
  (Instr.storeAt t (.pointer (some ⟨b,o,none⟩)) v).run P w = .ok () (w.setRow b (cs.toList.take o++v.cells.toList++cs.toList.drop (o+z)).toArray):=by
 have h2:=run_storeCells_at (P:=P) b o bt v.cells.toList 0 cs w hr (by omega) h1;simp only [mz,hz] at h2;have h3:v.cells.size=z:=by rw [<- hz]; simp
 simp [Instr.storeAt,Instr.sureAddr,storeVar,sv ht,h3,h2]
theorem FQ {x y:Operand} {ag:Bool} {z b o:Nat} {us:bG} {bt:TypeId} (I:St W M T n G D F a w) (hx:ev G x=some (.pointer (some ⟨b,o,none⟩))) (hy:ev G y=some v) (hv:v.cells.toList=us) (ht:qZ P t=some (ag,z)) (i:Nat) (hi:D[i]? = some (.box b cs bt))
  (hz:us.length=z) (hl:Nat.ble (o+z) cs.length=true) (h1:∀ u∈us,u.oneCell'=true)
  (k:∀ w',Kt (fun j=>j=b) w w'->St W M T n G (D.set i (.box b (sF cs o us) bt)) F a w'->K a w'):t8 P ⟨none,.store t x y,ty,pos,af,g⟩ a w K:=by
 have hr:w.heap[b]? = some (.cells cs.toArray bt (0,0)):=I.own _ (az hi);subst hv;have hle:=fw hl;have hst:=Eh (P:=P) ht hr hz (by simpa using hle) h1;have hrow:(w.setRow b (cs.take o++v.cells.toList++cs.drop (o+z)).toArray).heap[b]? = some (.cells (cs.take o++v.cells.toList++cs.drop (o+z)).toArray bt (0,0)):=setRow_heap w b cs.toArray _ bt _ hr;have O:Kt (fun j=>cZ.dom (.box b cs bt) j) w (w.setRow b (cs.take o++v.cells.toList++cs.drop (o+z)).toArray):=by
  refine⟨rfl,rfl,rfl,by simp [World.setRow],fun j hj hn=>?_⟩;have hne:b≠j:=fun e=>hn (by simp [cZ.dom,e]);simp [World.setRow,Iz,hne]
 refine HH (w':=w.setRow b (cs.take o++v.cells.toList++cs.drop (o+z)).toArray) (by simp [execOp,I.ev hx,I.ev hy,hst]) (k _ (O.mono fun j hj=>by simp only [cZ.dom,cw] at hj; exact hj.symm) ?_);have:=I.turn hi O (r':=.box b (sF cs o v.cells.toList) bt) (by rw [sF,hz]; exact hrow) (fun j hj=>.inl hj);exact this
theorem HO {α β:Type} (f:α->Sem β) (g:α->Option β) (w:World) (hf:∀ x y,g x=some y->(f x).run P w = .ok y w):∀ (l:List α) (r:List β),l.mapM g=some r->(l.mapM f).run P w = .ok r w
 | [],r,h=>by simp only [List.mapM_nil,Option.pure_def,cw] at h; subst h; simp
 | x::l,r,h=>by
  simp only [List.mapM_cons,Option.bind_eq_bind,Option.pure_def] at h;cases h1:g x with
  | none=>rw [h1] at h; cases h
  | some y =>
   cases h2:l.mapM g with
   | none=>rw [h1,h2] at h; cases h
   | some ys =>
    rw [h1,h2] at h;simp only [al,cw] at h;subst h;simp [List.mapM_cons,hf x y h1,HO f g w hf l ys h2]
theorem St.evp (h:St W M T n G D F a w):∀ {ps:List (Nat×Operand)} {vs:List (Nat×Value)},evp G ps=some vs->ps.map (fun p=>(p.1,a.eval p.2))=vs
 | [],vs,hx=>by simp only [Proofs.YtllbbcgnnoonoaaGreatDoor.evp,cw] at hx; subst hx; rfl
 | (i,x)::r,vs,hx=>by
  simp only [Proofs.YtllbbcgnnoonoaaGreatDoor.evp] at hx;cases h1:Proofs.YtllbbcgnnoonoaaGreatDoor.ev G x with
  | none=>rw [h1] at hx; cases hx
  | some v =>
   cases h2:Proofs.YtllbbcgnnoonoaaGreatDoor.evp G r with
   | none=>rw [h1,h2] at hx; cases hx
   | some us =>
    rw [h1,h2] at hx;simp only [cw] at hx;subst hx;rw [vw,h.ev h1,h.evp h2]
theorem bE {d:Option Nat} {ps:List (Nat×Operand)} {pl:List (Nat×Nat)} {zs ws:bG} {us:List (bG)} {vs:List (Nat×Value)} (I:St W M T n G D F a w) (hp:EQ P t=some pl) (hz:gR P t=some zs) (hv:evp G ps=some vs) (hcs:Cs vs us) (hf:EB pl zs vs us=some ws) :
  Ye P ⟨d,.build t ps.toArray,ty,pos,af,g⟩ a E w (.agg ws.toArray) :=
 Ye.of fun w=>by
  unfold EQ at hp;split at hp
  ·rename_i fs hu;obtain⟨z,hz1,hz2⟩:=A9 hz w;have h1:=HO (P:=P) (fun f=>do pure (f.offset,<- sizeOf f.type)) (fun f=>(P.info? f.type).map fun i=>(f.offset,i.size)) w (fun x y hy=>by
    cases hi:P.info? x.type with
    | none=>rw [hi] at hy; cases hy
    | some i=>rw [hi] at hy; simp only [nG,cw] at hy; subst hy; simp [sizeOf,typeInfo,hi]) fs.toList pl hp
   have h2:(fs.mapM (m:=Sem) fun f=>do pure (f.offset,<- sizeOf f.type)).run P w = .ok pl.toArray w:=by
    rw [Array.mapM_eq_mapM_toList,Sem.run_map,h1]; rfl
   have h3:=FK (place:=(pl.toArray[·]?)) (pl:=pl) (fun i q hq=>by simpa using hq) vs us zs ws hcs hf;have hzc:z.cells=zs.toArray:=by rw [<- hz1]
   have h4:(ps.toArray.map (fun p=>(p.1,a.eval p.2))).toList=vs:=by rw [<- I.evp hv]; simp
   have h5:(Instr.build t (ps.toArray.map (fun p=>(p.1,a.eval p.2)))).run P w = .ok (.agg ws.toArray) w:=by
    unfold Instr.build;simp only [Sem.run_bind,hz2,Result.andThen_ok,run_underlying hu,h2,hzc,h4,h3,Sem.run_pure]
   simp [execOp] at h5 ⊢;rw [h5]; rfl
  ·cases hp
end
end
section
open Go.RowKit
variable {c:Bool} {d i j k:Nat} {o oi oj:Oper} {r:cZ} {t:Nat} {v:Value} {w0:World} {want:Bool}
section
variable {P:Program} {ops:Array Oper} {Q:Exit->Act->World->Prop} {md:Region.Mode} {E:Nat->Prop}
inductive Tn where
 | any
 | blk (o:Option Nat)
 | new (N:Nat)
 | bks (l:List (Option Nat))
def Et:Tn->Nat->Prop
 | .any,_=>True
 | .blk o,k=>o=some k
 | .new N,k=>N<=k
 | .bks l,k=>some k∈l
def Eo (l:List (Tn)) (k:Nat):Prop:=∃ e∈l,Et e k
def yI (mods:List (Nat×Tn)) (i:Nat):List (Tn):=(mods.filter fun p=>Nat.beq p.1 i).map (·.2)
def Px (mods:List (Nat×Tn)) (i:Nat) (w w':World):Prop:=Kt (Eo (yI mods i)) w w'
def xw (ops:Array Oper) (listed:Array Bool) (i:Nat):Nat->Nat->Bool
 | 0,_=>false
 | n+1,j=>match ops[j]? with
  | some oj=>oj.after.any fun e=>Region.binds .any e&&(Nat.beq e.on i||(!listed.getD e.on true&&xw ops listed i n e.on))
  | none=>true
def Cy (ops:Array Oper) (listed:Array Bool) (i j:Nat):Bool:=listed.getD j true||xw ops listed i 5 j
def rem (ops:Array Oper) (mods:List (Nat×Tn)) (listed:Array Bool) (i:Nat):List (Tn):=(mods.filter fun p=>!Cy ops listed i p.1).map (·.2)
def ut (P:Program) (ops:Array Oper) (Q:Exit->Act->World->Prop) (mods:List (Nat×Tn)):Nat->Array Bool->Act->World->Prop
 | 0,listed,a,w=>Region.ready .any ops listed=[]/\Q .normal a w
 | fuel+1,listed,a,w =>
  (Region.ready .any ops listed=[]->Q .normal a w) /\
  ∀ i∈Region.ready .any ops listed,wpOp P ops Q i (fun a' w'=>Px mods i w w'/\ut P ops Q mods fuel (listed.setIfInBounds i true) a' w') a w
theorem Kv {mods:List (Nat×Tn)}:∀ (fuel:Nat) (listed:Array Bool) (a:Act) (w:World),ut P ops Q mods fuel listed a w->wpAny P .any ops Q fuel listed a w
 | 0,_,_,_,h=>h
 | fuel+1,listed,a,w,h=>⟨h.1,fun i hi=>wpOp_mono (fun a w h=>Kv fuel _ a w h.2) (h.2 i hi)⟩
theorem OD {l:Array Bool} (h:l.getD i false=true):l.getD i true=true:=by
 rcases e9 i l.size with h' | h'
 ·simp [h'] at h ⊢; exact h
 ·simp [Pq h'] at h
theorem Ik {listed:Array Bool} (hj:ops[j]? = some oj) (hall:∀ e∈oj.after,Region.binds .any e=true->listed.getD e.on false=true) (hno:∀ e∈oj.after,Region.binds .any e=true->e.on≠i):∀ n,xw ops listed i n j=false
 | 0=>rfl
 | n+1=>by
  cases h:xw ops listed i (n+1) j with
  | false=>rfl
  | true =>
   unfold xw at h;rw [hj] at h;dsimp only at h;obtain⟨e,he,hb⟩:=Po.1 h;simp only [lq,wB,sw] at hb;rcases hb.2 with h1 | h1
   ·exact absurd (xC h1) (hno e he hb.1)
   ·rw [OD (hall e he hb.1)] at h1; cases h1.1
theorem Mm {listed:Array Bool} (hj:ops[j]? = some oj) (hun:listed.getD j true=false) (hall:∀ e∈oj.after,Region.binds .any e=true->listed.getD e.on false=true) (hno:∀ e∈oj.after,Region.binds .any e=true->e.on≠i):Cy ops listed i j=false:=by
 unfold Cy;rw [hun,Ik hj hall hno]; rfl
theorem E6 {listed:Array Bool} {i j:Nat} (hw:∀ n,xw ops listed i n j=false):∀ n k,xw ops listed i n k=true->xw ops (listed.setIfInBounds j true) i n k=true
 | 0,_,h=>h
 | n+1,k,h=>by
  unfold xw at h ⊢;cases O:ops[k]? with
  | none=>rfl
  | some ok =>
   rw [O] at h;dsimp only at h ⊢;obtain⟨e,he,hb⟩:=Po.1 h;refine Po.2 ⟨e,he,?_⟩;simp only [lq,wB,sw] at hb ⊢;refine⟨hb.1,?_⟩;rcases hb.2 with h1 | ⟨h1,h2⟩
   ·exact .inl h1
   ·by_cases hej:j=e.on
    ·rw [<- hej,hw n] at h2; cases h2
    ·exact .inr ⟨by rw [getD_set_ne true hej]; exact h1,E6 hw n _ h2⟩
theorem KS {listed:Array Bool} (hw:∀ n,xw ops listed i n j=false) (h:Cy ops (listed.setIfInBounds j true) i k=false):Cy ops listed i k=false:=by
 unfold Cy at *;rw [Bool.or_eq_false_iff] at h ⊢;refine⟨?_,?_⟩
 ·have h1:=h.1;by_cases hjk:j=k
  ·subst hjk;by_cases hl:j<listed.size
   ·simp [hl] at h1
   ·simp [Pq (by omega:listed.size<=j)] at h1
  ·rw [getD_set_ne true hjk] at h1; exact h1
 ·cases h2:xw ops listed i 5 k with
  | false=>rfl
  | true=>rw [E6 hw 5 k h2] at h; cases h.2
def YE (P:Program) (ops:Array Oper) (E:Nat->Prop) (w0:World) (o:Oper) (v:Value) (a:Act):Prop :=
 (Region.wanted o (yielded ops a.tmps)=true/\∀ w,Kt E w0 w->(execOp a.eval o).run P w = .ok (.value v) w) ∨
 (Region.wanted o (yielded ops a.tmps)=false/\v=undef)
theorem YE.wpOp {a:Act} (hi:ops[i]? = some o) (hy:YE P ops E w0 o v a)
  {K:Act->World->Prop} {w:World} (hw0:Kt E w0 w) (h:K (a.put o.dst v) w):wpOp P ops Q i K a w:=by
 unfold Go.wpOp;simp only [hi];rcases hy with⟨hw,hv⟩|⟨hw,rfl⟩
 ·simp only [hw,if_true,Oper.wp,hv w hw0,Oper.upon]; exact .inl h
 ·simp only [hw,DG,if_false]; exact h
theorem YE.of_same {a a':Act} (hy:YE P ops E w0 o v a) (he:execOp a'.eval o=execOp a.eval o)
  (hw:Region.wanted o (yielded ops a'.tmps)=Region.wanted o (yielded ops a.tmps)):YE P ops E w0 o v a':=by
 unfold YE at *;rw [he,hw];exact hy
theorem Lz (hj:ops[j]? = some oj) (hap:oi.apart ops oj=true)
  (hsi:∀ cs b,oi.op ≠ .select cs b) (hsj:∀ cs b,oj.op ≠ .select cs b)
  (hQ:∀ c a w,Q (.panic c) (a.put oi.dst v) w->Q (.panic c) a w) {K:Act->World->Prop} {a:Act} {w:World}
  (hy:YE P ops E w0 oi v a) (h:wpOp P ops Q j K (a.put oi.dst v) w) :
  wpOp P ops Q j (fun a' w'=>YE P ops E w0 oi v a'/\K (a'.put oi.dst v) w') a w:=by
 obtain⟨h1,h2,h3⟩:=Oper.apart_spec hap;have keep:∀ (a:Act),YE P ops E w0 oi v a->∀ u,YE P ops E w0 oi v (a.put oj.dst u):=fun a hy u =>
  hy.of_same (execOp_put oi hsi a oj.dst u h3) (wanted_put oi a oj.dst u h3)
 have keepD:∀ d,YE P ops E w0 oi v { a with defers:=d::a.defers }:=fun d=>hy.of_same rfl rfl;unfold wpOp at *;simp only [hj] at *;rw [wanted_put oj a oi.dst v h1] at h;split
 ·rename_i hw;simp only [hw,if_true] at h;rcases h with h | ⟨hasks,hlets⟩
  case inr=>exact .inr ⟨by unfold Oper.asks at *; rw [execOp_put oj hsj a oi.dst v h1] at hasks; exact hasks,hlets⟩
  refine .inl ?_;unfold Oper.wp at *;rw [execOp_put oj hsj a oi.dst v h1] at h;generalize (execOp a.eval oj).run P w=r at *;cases r with
  | ok n w' =>
   cases n <;> simp only [Oper.upon] at h ⊢
   case value u=>exact⟨keep a hy u,by rw [<- Act.put_comm a v u h2]; exact h⟩
   case skip=>exact⟨keep a hy _,by rw [<- Act.put_comm a v undef h2]; exact h⟩
   case defer d =>
    refine⟨keep _ (keepD d) _,?_⟩;rw [<- Act.put_comm _ v undef h2,<- Act.put_defers];exact h
   case enter f args =>
    refine Calls.mono h fun e w'' he=>?_;cases e with
    | returned u=>exact⟨keep a hy u,by rw [<- Act.put_comm a v u h2]; exact he⟩
    | panicked c=>exact hQ _ _ _ he
    | outgrown=>exact he
   case row row args=>exact Rows.mono h fun u w'' he=>⟨keep a hy u,by rw [<- Act.put_comm a v u h2]; exact he⟩
  | halt x w' =>
   cases x <;> simp only [Oper.upon] at h ⊢
   case panic u=>exact hQ _ _ _ h
 ·rename_i hw;simp only [hw] at h;exact⟨keep a hy _,by rw [<- Act.put_comm a v undef h2]; exact h⟩
theorem Ly {mods:List (Nat×Tn)} (hi:ops[i]? = some oi) (hsel:∀ (j:Nat) (o:Oper) cs b,ops[j]? = some o->o.op ≠ .select cs b)
  (hQ:∀ c a w,Q (.panic c) (a.put oi.dst v) w->Q (.panic c) a w) :
  ∀ (fuel:Nat) (listed:Array Bool) (a:Act) (w:World),
   (∀ j oj,ops[j]? = some oj->j≠i->listed.getD j true=false->(∀ e∈oj.after,Region.binds .any e=true->e.on≠i)->oi.apart ops oj=true) ->
   i∈Region.ready .any ops listed->(∀ p∈mods,Cy ops listed i p.1=false->∀ k,Et p.2 k->E k)->YE P ops E w0 oi v a->Kt E w0 w ->
   ut P ops Q mods fuel (listed.setIfInBounds i true) (a.put oi.dst v) w->ut P ops Q mods (fuel+1) listed a w:=by
 intro fuel
 induction fuel with
 | zero =>
  intro listed a w _ hr _ hy hw0 H;refine⟨fun h=>(by rw [h] at hr; cases hr),fun j hj=>?_⟩;by_cases hji:j=i
  ·subst hji; exact hy.wpOp hi hw0 ⟨aw _ _,H⟩
  ·have:=ready_mono hj hji;rw [H.1] at this;cases this
 | succ fuel ih =>
  intro listed a w hfree hr hbef hy hw0 H;refine⟨fun h=>(by rw [h] at hr; cases hr),fun j hj=>?_⟩;by_cases hji:j=i
  ·subst hji; exact hy.wpOp hi hw0 ⟨aw _ _,H⟩
  ·have h1:=H.2 j (ready_mono hj hji);obtain⟨hjun,oj,hoj,hall⟩:=mem_ready.1 hj;have hnot:∀ e∈oj.after,Region.binds .any e=true->e.on≠i:=fun e he hb heq=>by
    have h1:=hall e he hb;have h0:=(mem_ready.1 hr).1;rw [heq] at h1;rcases e9 i listed.size with h' | h'
    ·simp [h'] at h0 h1; rw [h0] at h1; cases h1
    ·simp [Pq h'] at h1
   have h2:=Lz hoj (hfree j oj hoj hji hjun hnot) (fun cs b=>hsel i oi cs b hi) (fun cs b=>hsel j oj cs b hoj) hQ hy h1;have hfree':∀ k ok,ops[k]? = some ok->k≠i->(listed.setIfInBounds j true).getD k true=false ->
     (∀ e∈ok.after,Region.binds .any e=true->e.on≠i)->oi.apart ops ok=true:=fun k ok O hki hun hno=>by
    refine hfree k ok O hki ?_ hno;by_cases hjk:j=k
    ·subst hjk; exact hjun
    ·rw [getD_set_ne true hjk] at hun; exact hun
   refine wpOp_mono (fun a' w' h3=>⟨h3.2.1,ih (listed.setIfInBounds j true) a' w' hfree' (ready_mono hr (Ne.symm hji)) (fun p hp hd=>hbef p hp (KS (Ik hoj hall hnot) hd)) h3.1 (hw0.trans ?_) ?_⟩) h2
   ·refine Kt.mono h3.2.1 fun k O=>?_;obtain⟨e,he,hek⟩:=O;obtain⟨p,hp,rfl⟩:=cL.1 he;rw [gC] at hp;have hpj:=xC hp.2;exact hbef p hp.1 (by rw [hpj]; exact Mm hoj hjun hall hnot) k hek
   ·rw [Array.setIfInBounds_comm _ _ hji];exact h3.2.2
theorem Ae {mods:List (Nat×Tn)} {l:List (Tn)} {fuel:Nat} {listed:Array Bool} {a:Act} {w:World} (hi:ops[i]? = some oi)
  (hs:Region.noSelect ops=true) (hf:Region.free .any ops listed i=true) (hr:(Region.ready .any ops listed).contains i=true) (hb:rem ops mods listed i=l)
  (hQ:∀ c a w,Q (.panic c) (a.put oi.dst v) w->Q (.panic c) a w) (hy:YE P ops (Eo l) w oi v a)
  (h:ut P ops Q mods fuel (listed.setIfInBounds i true) (a.put oi.dst v) w):ut P ops Q mods (fuel+1) listed a w :=
 Ly hi (Region.noSelect_spec hs) hQ fuel listed a w (Region.free_spec hi hf) (by simpa using hr)
  (fun p hp hd k O=>⟨p.2,by rw [<- hb]; exact cL.2 ⟨p,gC.2 ⟨hp,by rw [hd]; rfl⟩,rfl⟩,O⟩) hy (aw _ _) h
theorem Gi {mods:List (Nat×Tn)} {fuel:Nat} {listed:Array Bool} {a:Act} {w:World} (hi:ops[i]? = some oi) (hr:Region.ready .any ops listed=[i]) (hg:oi.guard=none)
  (h:t8 P oi a w (fun a' w'=>Px mods i w w'/\ut P ops Q mods fuel (listed.setIfInBounds i true) a' w')):ut P ops Q mods (fuel+1) listed a w:=by
 refine⟨fun h=>(by rw [h] at hr; cases hr),fun j hj=>?_⟩;rw [hr,cp] at hj;subst hj;unfold wpOp;rw [hi];simp only;rw [if_pos (by simp [Region.wanted,hg])];exact .inl (h _ _ fun a w h=>h)
theorem dp {mods:List (Nat×Tn)} {W:World} {M T:Nat->Prop} {n:Nat} {G:List (Nat×Value)} {D:List cZ} {F:List co} {fuel:Nat} {listed:Array Bool} {a:Act} {w:World} (hi:ops[i]? = some oi) (hr:Region.ready .any ops listed=[i]) (I:St W M T n G D F a w) (hg:oi.guard=some (j,want)) (hj:(ops[j]?).bind (·.dst)=some t) (ht:lk G t=some (.bool c)) (hc:c=want)
  (h:t8 P oi a w (fun a' w'=>Px mods i w w'/\ut P ops Q mods fuel (listed.setIfInBounds i true) a' w')):ut P ops Q mods (fuel+1) listed a w:=by
 refine⟨fun h=>(by rw [h] at hr; cases hr),fun k O=>?_⟩;rw [hr,cp] at O;subst O;unfold wpOp;rw [hi];simp only;rw [if_pos (by rw [tj I hg hj ht,hc]; simp)];exact .inl (h _ _ fun a w h=>h)
theorem gO {mods:List (Nat×Tn)} {fuel:Nat} {listed:Array Bool} {a:Act} {w:World} (hi:ops[i]? = some oi) (hj:ops[j]? = some oj) (hr:Region.ready .any ops listed=[i,j]) (hg:oi.guard=none) (hg2:oj.guard=none)
  (h:t8 P oi a w (fun a' w'=>Px mods i w w'/\ut P ops Q mods fuel (listed.setIfInBounds i true) a' w'))
  (h2:t8 P oj a w (fun a' w'=>Px mods j w w'/\ut P ops Q mods fuel (listed.setIfInBounds j true) a' w')):ut P ops Q mods (fuel+1) listed a w:=by
 refine⟨fun h=>(by rw [h] at hr; cases hr),fun k O=>?_⟩;rw [hr] at O;simp only [bC,cF,or_false] at O;rcases O with rfl | rfl
 ·unfold wpOp;rw [hi];simp only;rw [if_pos (by simp [Region.wanted,hg])];exact .inl (h _ _ fun a w h=>h)
 ·unfold wpOp;rw [hj];simp only;rw [if_pos (by simp [Region.wanted,hg2])];exact .inl (h2 _ _ fun a w h=>h)
theorem NL {mods:List (Nat×Tn)} {listed:Array Bool} {a:Act} {w:World} (hr:Region.ready .any ops listed=[]) (h:Q .normal a w):∀ fuel,ut P ops Q mods fuel listed a w
 | 0=>⟨hr,h⟩
 | _+1=>⟨fun _=>h,fun i hi=>by rw [hr] at hi; cases hi⟩
theorem jx {mods:List (Nat×Tn)} {w w':World} (h:Kt No w w'):Px mods i w w':=h.no
theorem qU {mods:List (Nat×Tn)} {w w':World} {e:Tn} {E:Nat->Prop} (hm:yI mods i=[e]) (h:Kt E w w') (he:∀ k,E k->Et e k):Px mods i w w' :=
 h.mono fun k O=>⟨e,by rw [hm]; exact cp.2 rfl,he k O⟩
theorem wZ {E:Nat->Prop}:∀ k,E k->Et .any k:=fun _ _=>trivial
theorem od {b:Nat}:∀ k,k=b->Et (.blk (some b)) k:=fun _ h=>congrArg some h.symm
theorem pH:∀ k,v.ownBlock=some k->Et (.blk v.ownBlock) k:=fun _ h=>h
theorem vH {b N:Nat} (h:N<=b):∀ k,Et (.blk (some b)) k->Et (.new N) k:=fun k O=>by
 have O:some b=some k:=O;injection O with O;subst O; exact h
def VM (mods:List (Nat×Tn)) (i:Nat) (e:Tn):List (Nat×Tn):=mods.map fun p=>if Nat.beq p.1 i then (i,e) else p
theorem Kw {mods mods':List (Nat×Tn)} (h:∀ i k,Eo (yI mods' i) k->Eo (yI mods i) k):∀ (fuel:Nat) (listed:Array Bool) (a:Act) (w:World),ut P ops Q mods' fuel listed a w->ut P ops Q mods fuel listed a w
 | 0,_,_,_,H=>H
 | fuel+1,_,_,_,H=>⟨H.1,fun i hi=>wpOp_mono (fun a w h1=>⟨h1.1.mono (h i),Kw h fuel _ a w h1.2⟩) (H.2 i hi)⟩
theorem iw {mods:List (Nat×Tn)} {fuel:Nat} {listed:Array Bool} {a:Act} {w:World} (i:Nat) (e e0:Tn) (hm:yI mods i=[e0]) (hs:∀ k,Et e k->Et e0 k) (H:ut P ops Q (VM mods i e) fuel listed a w):ut P ops Q mods fuel listed a w:=by
 refine Kw (fun j k O=>?_) _ _ _ _ H;obtain⟨x,hx,hxk⟩:=O;unfold yI at hx;obtain⟨p,hp,rfl⟩:=cL.1 hx;rw [gC] at hp;obtain⟨hp1,hp2⟩:=hp;unfold VM at hp1;obtain⟨q,hq,rfl⟩:=cL.1 hp1;by_cases hqi:Nat.beq q.1 i=true
 ·rw [if_pos hqi] at hp2 hxk;have hij:i=j:=xC hp2;subst hij;exact⟨e0,by rw [hm]; exact cp.2 rfl,hs k hxk⟩
 ·rw [if_neg hqi] at hp2 hxk;exact⟨q.2,cL.2 ⟨q,gC.2 ⟨hq,hp2⟩,rfl⟩,hxk⟩
theorem Ip {id:Nat} {a:Act} {w:World} (mods:List (Nat×Tn)) (hm:P.follows .mixedOrders=true) (h:ut P ops Q mods ops.size (Array.replicate ops.size false) a w.drew):(Code.region id ops true).wp P Q a w :=
 wp_region_any hm (Kv _ _ _ _ h)
end
section
variable {P:Program} {W:World} {M T E:Nat->Prop} {n:Nat} {G G':List (Nat×Value)} {D D':List cZ} {F F':List co} {a:Act} {w w':World} {ops:Array Oper} {Q:Exit->Act->World->Prop} {fuel:Nat} {listed:Array Bool} {mods:List (Nat×Tn)}
def Qp (Q:Exit->Act->World->Prop):Prop:=∀ c a d v w,Q (.panic c) (a.put d v) w->Q (.panic c) a w
theorem Tb {id:Nat} {l:List Oper} {N:Nat} (mods:List (Nat×Tn)) (I:St W M T n G D F a w) (hm:P.follows .mixedOrders=true) (hN:l.length=N) (hQ:Qp Q) (h:∀ w,Qp Q->St W M T n G D F a w->ut P l.toArray Q mods N (Array.replicate N false) a w):(Code.region id l.toArray true).wp P Q a w:=by
 refine Ip mods hm ?_;rw [A2,hN];exact h _ hQ (I.later (Kt.drew w))
theorem dy {l:List (Tn)} (i:Nat) (hi:ops[i]? = some o) (hs:Region.noSelect ops=true) (hf:Region.free .any ops listed i=true) (hr:(Region.ready .any ops listed).contains i=true) (hb:rem ops mods listed i=l) (hQ:Qp Q) (I:St W M T n G D F a w) (h:Ye P o a (Eo l) w v) (hg:o.guard=none) (hd:o.dst=some d) (hn:Nat.blt d n=true)
  (k:∀ a,St W M T n ((d,v)::G) D F a w->ut P ops Q mods fuel (listed.setIfInBounds i true) a w):ut P ops Q mods (fuel+1) listed a w :=
 Ae hi hs hf hr hb (fun c a w=>hQ c a _ _ w) (.inl ⟨by simp [Region.wanted,hg],h⟩) (by rw [hd]; exact k _ (I.put hn v))
theorem VC {l:List (Tn)} (i:Nat) (hi:ops[i]? = some o) (hs:Region.noSelect ops=true) (hf:Region.free .any ops listed i=true) (hr:(Region.ready .any ops listed).contains i=true) (hb:rem ops mods listed i=l) (hQ:Qp Q) (I:St W M T n G D F a w) (h:Ye P o a (Eo l) w v) (hg:o.guard=some (j,want)) (hj:(ops[j]?).bind (·.dst)=some t) (ht:lk G t=some (.bool c)) (hc:c=want) (hd:o.dst=some d) (hn:Nat.blt d n=true)
  (k:∀ a,St W M T n ((d,v)::G) D F a w->ut P ops Q mods fuel (listed.setIfInBounds i true) a w):ut P ops Q mods (fuel+1) listed a w :=
 Ae hi hs hf hr hb (fun c a w=>hQ c a _ _ w) (.inl ⟨by rw [tj I hg hj ht,hc]; simp,h⟩) (by rw [hd]; exact k _ (I.put hn v))
theorem VW (i:Nat) (hi:ops[i]? = some o) (hs:Region.noSelect ops=true) (hf:Region.free .any ops listed i=true) (hr:(Region.ready .any ops listed).contains i=true) (hQ:Qp Q) (I:St W M T n G D F a w) (hg:o.guard=some (j,want)) (hj:(ops[j]?).bind (·.dst)=some t) (ht:lk G t=some (.bool c)) (hc:c = !want) (hd:o.dst=some d) (hn:Nat.blt d n=true)
  (k:∀ a,St W M T n ((d,undef)::G) D F a w->ut P ops Q mods fuel (listed.setIfInBounds i true) a w):ut P ops Q mods (fuel+1) listed a w :=
 Ae (v:=undef) hi hs hf hr rfl (fun c a w=>hQ c a _ _ w) (.inr ⟨by rw [tj I hg hj ht,hc]; cases want <;> simp,rfl⟩) (by rw [hd]; exact k _ (I.put hn undef))
theorem U0 (i:Nat) (hi:ops[i]? = some o) (hs:Region.noSelect ops=true) (hf:Region.free .any ops listed i=true) (hr:(Region.ready .any ops listed).contains i=true) (hQ:Qp Q) (I:St W M T n G D F a w) (hg:o.guard=some (j,want)) (hj:(ops[j]?).bind (·.dst)=some t) (ht:lk G t=some undef) (hd:o.dst=some d) (hn:Nat.blt d n=true)
  (k:∀ a,St W M T n ((d,undef)::G) D F a w->ut P ops Q mods fuel (listed.setIfInBounds i true) a w):ut P ops Q mods (fuel+1) listed a w :=
 Ae (v:=undef) hi hs hf hr rfl (fun c a w=>hQ c a _ _ w) (.inr ⟨by
  have h1:=I.slots t _ ht;unfold Region.wanted yielded;rw [hg];simp only [hj,al,h1];rfl,rfl⟩) (by rw [hd]; exact k _ (I.put hn undef))
theorem cc:¬ Eo [] k:=fun ⟨_,h,_⟩=>by cases h
theorem JU {e:Tn} {l:List Tn} (h1:¬ Et e k) (h:¬ Eo l k):¬ Eo (e::l) k:=fun ⟨e,he,O⟩=>by
 rcases bC.1 he with rfl | he
 ·exact h1 O
 ·exact h ⟨e,he,O⟩
theorem uf {l:List Tn} {o:Option Nat} {r':cZ} (I:St W M T n G D F a w) (i:Nat) (hi:D[i]? = some r) (hr:r.dom k) (j:Nat) (hj:D[j]? = some r') (hd:r'.dom=fun k=>o=some k) (hij:i≠j) (h:¬ Eo l k):¬ Eo (.blk o::l) k:=JU (fun O=>by
 have O:o=some k:=O;obtain⟨l1,e1⟩:=bR.1 hi;obtain⟨l2,e2⟩:=bR.1 hj;rcases yX hij with hlt | hlt
 ·exact eC.1 I.apart i j l1 l2 hlt k (by rw [e1]; exact hr) (by rw [e2,hd]; exact O)
 ·exact eC.1 I.apart j i l2 l1 hlt k (by rw [e2,hd]; exact O) (by rw [e1]; exact hr)) h
def Oe:cZ->Option Nat
 | .box b _ _=>some b
 | .own v _ _ _=>v.ownBlock
 | .obj b _=>some b
 | .grp _=>none
def P5:cZ->Bool
 | .grp _=>false
 | _=>true
theorem L3 (h:P5 r=true) (O:r.dom k):Oe r=some k:=by cases r <;> first | exact O | cases h
theorem Hk (h:Oe r=some k):r.dom k:=by cases r <;> first | exact h | cases h
theorem Mp {D0:List cZ} {l:List (Option Nat)} (h:D0.map Oe=l) (hg:D0.all P5=true):∀ k,(∃ r∈D0,r.dom k)->Et (.bks l) k:=fun k ⟨r,hr,O⟩=>by
 subst h;exact cL.2 ⟨r,hr,L3 (Iu.1 hg r hr) O⟩
theorem Mq {l:List (Option Nat)}:∀ k,(∃ r∈([]:List cZ),r.dom k)->Et (.bks l) k:=fun k ⟨r,hr,_⟩=>by cases hr
theorem I1 {l:List Tn} {bs:List (Option Nat)} (I:St W M T n G D F a w) (i:Nat) (hi:D[i]? = some r) (hr:r.dom k) (js:List Nat) (hl:(js.map fun j=>(D[j]?).bind Oe)=bs) (hn:js.contains i=false) (h:¬ Eo l k):¬ Eo (.bks bs::l) k:=JU (fun O=>by
 subst hl;obtain⟨j,hj,e⟩:=cL.1 (show some k∈_ from O);obtain⟨r',h1,h2⟩:=Option.bind_eq_some_iff.1 e;have hij:i≠j:=fun e=>by subst e; rw [List.contains_eq_mem,decide_eq_false_iff_not] at hn; exact hn hj
 obtain⟨l1,e1⟩:=bR.1 hi;obtain⟨l2,e2⟩:=bR.1 h1;rcases yX hij with hlt | hlt
 ·exact eC.1 I.apart i j l1 l2 hlt k (by rw [e1]; exact hr) (by rw [e2]; exact Hk h2)
 ·exact eC.1 I.apart j i l2 l1 hlt k (by rw [e2]; exact Hk h2) (by rw [e1]; exact hr)) h
theorem CE:∀ k,Eo [] k->dT T D k∨w.heap.size<=k:=fun _ ⟨_,h,_⟩=>by cases h
theorem Oz {e:Tn} {l:List Tn} (h1:∀ k,Et e k->dT T D k∨w.heap.size<=k) (h:∀ k,Eo l k->dT T D k∨w.heap.size<=k):∀ k,Eo (e::l) k->dT T D k∨w.heap.size<=k:=fun k ⟨e,he,O⟩=>by
 rcases bC.1 he with rfl | he
 ·exact h1 k O
 ·exact h k ⟨e,he,O⟩
theorem JV {l:List Tn} {o:Option Nat} {r':cZ} (j:Nat) (hj:D[j]? = some r') (hd:r'.dom=fun k=>o=some k) (h:∀ k,Eo l k->dT T D k∨w.heap.size<=k):∀ k,Eo (.blk o::l) k->dT T D k∨w.heap.size<=k:=Oz (fun k O=>.inl (.inr ⟨r',az hj,by rw [hd]; exact O⟩)) h
def N3 (N:Nat):co:=⟨fun _ w=>N<=w.heap.size,fun h k _=>du h k.size⟩
end
end
section
open Go.RowKit
variable {R S:Type} {ag:Bool} {args:Array Operand} {b:Bool} {d:Nat} {e:TypeId} {f:Nat} {i:Int} {α:Type} {r:α} {s:S} {t ty:TypeId} {tys:Array TypeId} {v:Value} {vs:bG} {x:α} {y:Code}
variable {pos:String} {af:Array Edge} {g:Option (Nat×Bool)}
def sH (xs:List α) (lo hi:Int):Option (List α):=if 0<=lo/\lo<=hi/\hi<=xs.length then some ((xs.take hi.toNat).drop lo.toNat) else none
def cm (n:Nat):Bool:=Nat.ble n 4294967296
theorem Da {n:Nat} (h:cm n=true):n<=4294967296:=fw h
def gd (b:Bool) (x:Option α):Option α:=cond b x none
theorem a6 {x:Option α} {y:α} (h:gd b x=some y):b=true/\x=some y:=by cases b with
 | true=>exact⟨rfl,h⟩
 | false=>cases h
theorem bd {β:Type} {o:Option α} {k:α->Option β} {y:β} (h:o.bind k=some y):∃ u,o=some u/\k u=some y:=Option.bind_eq_some_iff.1 h
theorem ct {y:α} (hb:b=true) (h:cond b x y=r):x=r:=by subst hb; exact h
theorem JG (b:Bool):b=true∨b=false:=by cases b <;> simp
theorem on:∀ u∈([]:bG),u.oneCell'=true:=fun u hu=>by cases hu
theorem oc {l:bG} (h:v.oneCell'=true) (k:∀ u∈l,u.oneCell'=true):∀ u∈v::l,u.oneCell'=true:=fun u hu=>by
 rcases bC.1 hu with rfl | hu
 ·exact h
 ·exact k u hu
inductive Fl (S R:Type) where
 | go (s:S)
 | out (r:R)
def CL {S R:Type} (body:S->Option (Fl S R)):Nat->S->Option R
 | 0,_=>none
 | n+1,s=>match body s with
  | none=>none
  | some (.out r)=>some r
  | some (.go s')=>CL body n s'
theorem HB {S R:Type} {body:S->Option (Fl S R)}:∀ {n m:Nat} {s:S} {r q:R},CL body n s=some r->CL body m s=some q->r=q
 | 0,_,_,_,_,h,_=>by cases h
 | _,0,_,_,_,_,h=>by cases h
 | n+1,m+1,s,r,q,h,k=>by
  simp only [CL] at h k;cases hb:body s with
  | none=>rw [hb] at h; cases h
  | some f =>
   rw [hb] at h k;cases f with
   | out u=>simp only [cw] at h k; rw [<- h,<- k]
   | go u=>exact HB h k
open Classical in
noncomputable def loop (body:S->Option (Fl S R)) (s:S):Option R:=if h:∃ r n,CL body n s=some r then some h.choose else none
theorem zK {body:S->Option (Fl S R)} {r:R}:loop body s=some r↔∃ n,CL body n s=some r:=by
 unfold loop;split
 ·rename_i h;obtain⟨n,hn⟩:=h.choose_spec;constructor
  ·intro e; simp only [cw] at e; rw [<- e]; exact⟨n,hn⟩
  ·rintro⟨m,hm⟩; rw [HB hn hm]
 ·rename_i h;constructor
  ·intro e; cases e
  ·rintro⟨m,hm⟩; exact absurd ⟨r,m,hm⟩ h
theorem eV {body:S->Option (Fl S R)} {s':S} (h:body s=some (.go s')):loop body s=loop body s':=by
 apply Option.ext;intro r;rw [zK,zK];constructor
 ·rintro⟨n,hn⟩;cases n with
  | zero=>cases hn
  | succ n=>simp only [CL,h] at hn; exact⟨n,hn⟩
 ·rintro⟨n,hn⟩; exact⟨n+1,by simp only [CL,h]; exact hn⟩
theorem cR {body:S->Option (Fl S R)} {r:R} (h:body s=some (.out r)):loop body s=some r:=zK.2 ⟨1,by simp only [CL,h]⟩
section
variable {P:Program} {W:World} {M T E:Nat->Prop} {n:Nat} {G G':List (Nat×Value)} {D D':List cZ} {F F':List co} {a:Act} {w w':World} {K:Act->World->Prop} {Q:Exit->Act->World->Prop}
theorem bz {c:Code} (body:S->Option (Fl S R)) (I:S->Act->World->Prop) {s0:S} {r:R} (hl:loop body s0=some r) (h0:I s0 a w)
  (round:∀ s a w f,I s a w->body s=some f->(∀ u,f = .out u->u=r)->c.wp P (Exit.then (fun a' w'=>∃ s',f = .go s'/\I s' a' w') Q) a w):(Code.loop c).wp P Q a w:=by
 obtain⟨N,hN⟩:=zK.1 hl;intro b k cs;have key:∀ N s a w,CL body N s=some r->I s a w->∃ e a' w',Q e a' w'/\Arrives P (lone (b.at a (.code c :: .inLoop c::k)) cs w) b k cs e a' w':=by
  intro N
  induction N with
  | zero=>intro s a w h; cases h
  | succ N ih =>
   intro s a w h hI;simp only [CL] at h;cases hb:body s with
   | none=>rw [hb] at h; cases h
   | some f =>
    rw [hb] at h;obtain⟨e,a₁,w₁,hq,harr⟩:=round s a w f hI hb (fun u hu=>by subst hu; simp only [cw] at h; exact h) b (.inLoop c::k) cs;cases e with
    | normal =>
     obtain⟨s',hf,hI'⟩:=hq;subst hf;obtain⟨e₂,a₂,w₂,hq₂,harr₂⟩:=ih s' a₁ w₁ h hI';exact⟨e₂,a₂,w₂,hq₂,.of_steps (Steps.trans harr (.one step_inLoop)) harr₂⟩
    | exit id=>exact⟨_,a₁,w₁,hq,.pass (x:=.inLoop c) rfl (fun _ _=>.inl (by simp)) harr⟩
    | goto l=>exact⟨_,a₁,w₁,hq,.pass (x:=.inLoop c) rfl (fun _ _=>.inl (by simp)) harr⟩
    | ret=>exact⟨_,a₁,w₁,hq,.pass (x:=.inLoop c) rfl (fun _ _=>.inl (by simp)) harr⟩
    | panic ch=>exact⟨_,a₁,w₁,hq,.pass (x:=.inLoop c) rfl (fun _ _=>.inl (by simp)) harr⟩
    | outgrown=>exact⟨_,a₁,w₁,hq,.pass (x:=.inLoop c) rfl (fun _ _=>.inl (by simp)) harr⟩
 obtain⟨e,a',w',hq,harr⟩:=key N s0 a w hN h0;exact⟨e,a',w',hq,.of_steps (.one step_loop) harr⟩
theorem aK {x:Code} (J:Act->World->Prop) (h1:x.wp P (Exit.then J Q) a w) (h2:∀ a w,J a w->y.wp P Q a w):(Code.seq x y).wp P Q a w :=
 wp_seq (wp_mono h1 fun e a w h=>by cases e <;> first | exact h2 a w h | exact h)
theorem VR {c:Operand} {x:Code} (I:St W M T n G D F a w) (hc:ev G c=some (.bool b)) (hb:b=true) (h:x.wp P Q a w):(Code.cond c x y).wp P Q a w:=wp_cond_true (by rw [I.ev hc,hb]) h
theorem VQ {c:Operand} {x:Code} (I:St W M T n G D F a w) (hc:ev G c=some (.bool b)) (hb:b=false) (h:y.wp P Q a w):(Code.cond c x y).wp P Q a w:=wp_cond_false (by rw [I.ev hc,hb]) h
def yd (P:Program) (a:Act) (w:World):List ResultVar->bG->Prop
 | [],[]=>True
 | .tmp t::r,v::vs=>a.tmps.getD t undef=v/\yd P a w r vs
 | .cell c t::r,v::vs=>(∃ p,a.tmps.getD c undef = .pointer (some p)/\(loadVar t p).run P w = .ok v w)/\yd P a w r vs
 | _,_=>False
def Q5:bG->Value
 | [v]=>v
 | vs=>.tuple vs.toArray
def Nm (tmps:Array Value):ResultVar->Sem Value
 | .tmp t=>pure (tmps.getD t undef)
 | .cell c t=>do loadVar t (<- asAddr (tmps.getD c undef))
theorem Ga:∀ {rs:List ResultVar} {vs:bG},yd P a w rs vs->(rs.mapM (Nm a.tmps)).run P w = .ok vs w
 | [],[],_=>by simp
 | [],v::vs,h=>h.elim
 | .tmp t::r,[],h=>h.elim
 | .cell c t::r,[],h=>h.elim
 | .tmp t::r,v::vs,h=>by
  obtain⟨h1,h2⟩:=h;have U:(Nm a.tmps (.tmp t)).run P w = .ok v w:=by
   show (pure (a.tmps.getD t undef):Sem Value).run P w=_;rw [h1]; rfl
  rw [List.mapM_cons,Sem.run_bind,U,Result.andThen_ok,Sem.run_bind,Ga h2]; rfl
 | .cell c t::r,v::vs,h=>by
  obtain⟨⟨p,h0,h1⟩,h2⟩:=h;have U:(Nm a.tmps (.cell c t)).run P w = .ok v w:=by
   unfold Nm;simp only;have:(asAddr (a.tmps.getD c undef)).run P w = .ok p w:=by rw [h0]; rfl
   rw [Sem.run_bind,this,Result.andThen_ok,h1]
  rw [List.mapM_cons,Sem.run_bind,U,Result.andThen_ok,Sem.run_bind,Ga h2]; rfl
theorem Ji (fn:Func) (tmps:Array Value):results fn tmps=(do
  let vs <- fn.results.mapM (Nm tmps)
  pure (if h:vs.size=1 then vs[0] else .tuple vs)):=rfl
theorem aG {fn:Func} {R:Value->World->Prop} {rs:List ResultVar} (I:St W M T n G D F a w) (hr:fn.results=rs.toArray) (h:yd P a w rs vs) (C:R (Q5 vs) w):bodyPost P fn (RL M W R) .ret a w:=by
 refine⟨I.defers,Q5 vs,?_,Q5 vs,rfl,I.base,C⟩;have h1:=Ga h;rw [Ji,hr,Array.mapM_eq_mapM_toList,Sem.run_bind,Sem.run_map,h1];cases vs with
 | nil=>rfl
 | cons v r =>
  cases r with
  | nil=>rfl
  | cons u s =>
   show Sem.run P (pure (if h:(u::s).length+1=1 then _ else _)) w=_;rw [dif_neg (by simp)];rfl
theorem aH:yd P a w [] []:=trivial
theorem aF {t:Nat} {r:List ResultVar} (I:St W M T n G D F a w) (hv:lk G t=some v) (h:yd P a w r vs):yd P a w (.tmp t::r) (v::vs) :=
 ⟨by have:=I.slots t v hv; simp [Rs,this],h⟩
theorem eA {c:Nat} {b:Nat} {cs:bG} {bt:TypeId} {z:Nat} {r:List ResultVar} (I:St W M T n G D F a w) (hv:lk G c=some (.pointer (some ⟨b,0,none⟩))) (i:Nat) (hi:D[i]? = some (.box b cs bt)) (ht:qZ P t=some (ag,z)) (hl:cs.length=z) (hz:ag=false->z=1) (h:yd P a w r vs):yd P a w (.cell c t::r) (bF ag cs::vs):=by
 have hr:w.heap[b]? = some (.cells cs.toArray bt (0,0)):=I.own _ (az hi);refine⟨⟨⟨b,0,none⟩,by have:=I.slots c _ hv; simp [Rs,this],?_⟩,h⟩;exact EX ht hl rfl hz w (fun j u hj=>by rw [cell_of_row _ _ _ _ _ _ hr,List.getElem?_toArray,kj]; exact hj)
theorem St.adds (h:St W M T n G D F a w) (k:Kt No w w'):∀ (rs:List cZ),(∀ r∈rs,r.ok w'/\∀ k,r.dom k->w.heap.size<=k)->(rs.Pairwise fun r s=>∀ k,r.dom k->¬ s.dom k)->St W M T n G (rs++D) F a w'
 | [],_,_=>h.later k
 | r::rs,hr,hp=>by
  obtain⟨hp1,hp2⟩:=jl.1 hp;have ih:=St.adds h k rs (fun s hs=>hr s (lp _ hs)) hp2;obtain⟨q1,q2⟩:=hr r dF;refine⟨ih.size,ih.defers,ih.slots,ih.base,?_,?_,?_,fun f hf=>f.keep (h.facts f hf) k.no (fun j hj=>?_),ih.tlt⟩
  ·intro s hs;rcases bC.1 hs with rfl | hs
   ·exact q1
   ·exact ih.own s hs
  ·intro s hs j hj;rcases bC.1 hs with rfl | hs
   ·have:=q2 j hj;refine⟨fun ht=>?_,.inr ?_⟩
    ·have:=h.tlt j ht; omega
    ·have:=h.base.size; omega
   ·exact ih.free s hs j hj
  ·refine jl.2 ⟨fun s hs j hj hj2=>?_,ih.apart⟩;rcases cM.1 hs with hs | hs
   ·exact hp1 s hs j hj hj2
   ·have:=q2 j hj;have:=cZ.lt (h.own s hs) j hj2;omega
  ·rcases hj with hj | ⟨s,hs,hj⟩
   ·exact .inl (.inl hj)
   ·rcases bC.1 hs with rfl | hs
    ·exact .inr (q2 j hj)
    ·rcases cM.1 hs with hs | hs
     ·exact .inr ((hr s (lp _ hs)).2 j hj)
     ·exact .inl (.inr ⟨s,hs,hj⟩)
theorem rX {w0:World} {r:cZ} (h:r.ok w') (hf:∀ k,r.dom k->w0.heap.size<=k):∀ s∈[r],s.ok w'/\∀ k,s.dom k->w0.heap.size<=k:=fun s hs=>by
 rw [cp] at hs; subst hs; exact⟨h,hf⟩
theorem RP {w0:World} {r s:cZ} (h:r.ok w') (hf:∀ k,r.dom k->w0.heap.size<=k) (h2:s.ok w') (hf2:∀ k,s.dom k->w0.heap.size<=k):∀ q∈[r,s],q.ok w'/\∀ k,q.dom k->w0.heap.size<=k:=fun q hq=>by
 simp only [bC,cF,or_false] at hq;rcases hq with rfl | rfl
 ·exact⟨h,hf⟩
 ·exact⟨h2,hf2⟩
theorem Gz (r:cZ):[r].Pairwise fun r s=>∀ k,r.dom k->¬ s.dom k:=xA _ _
theorem Wo {r s:cZ} (h:∀ k,r.dom k->¬ s.dom k):[r,s].Pairwise fun r s=>∀ k,r.dom k->¬ s.dom k:=by
 simp only [jl,cp,forall_eq,cF,false_implies,implies_true,sA,and_true];exact h
theorem mV {T:Nat->Prop} {D rs:List cZ} (w:World):Nw (dT (dT T D) rs) (dT T (rs++D)) w:=fun k O=>.inl (by
 rcases O with O | ⟨r,hr,O⟩
 ·exact .inl (.inl O)
 ·rcases cM.1 hr with hr | hr
  ·exact .inr ⟨r,hr,O⟩
  ·exact .inl (.inr ⟨r,hr,O⟩))
def GJ (F:List co):List co->Prop
 | []=>True
 | f::r=>(∃ i:Nat,F[i]? = some f)/\GJ F r
theorem GJ.mem {F:List co}:∀ {F':List co},GJ F F'->∀ f∈F',f∈F
 | [],_,f,hf=>by cases hf
 | g::r,h,f,hf=>by
  rcases bC.1 hf with rfl | hf
  ·obtain⟨⟨i,hi⟩,_⟩:=h; exact az hi
  ·exact GJ.mem h.2 f hf
def pZ (D:List cZ):List Nat->List cZ->Prop
 | [],[]=>True
 | i::r,d::s=>D[i]? = some d/\pZ D r s
 | _,_=>False
theorem pZ.get {D:List cZ}:∀ {is:List Nat} {D':List cZ},pZ D is D'->∀ d∈D',∃ i∈is,D[i]? = some d
 | [],[],_,d,hd=>by cases hd
 | [],_::_,h,_,_=>h.elim
 | _::_,[],h,_,_=>h.elim
 | i::r,e::s,h,d,hd=>by
  rcases bC.1 hd with rfl | hd
  ·exact⟨i,dF,h.1⟩
  ·obtain⟨j,hj,h2⟩:=pZ.get h.2 d hd; exact⟨j,lp _ hj,h2⟩
theorem pZ.pw {D:List cZ} (hp:D.Pairwise fun r s=>∀ k,r.dom k->¬ s.dom k):∀ {is:List Nat} {D':List cZ},pZ D is D'->is.Nodup->D'.Pairwise fun r s=>∀ k,r.dom k->¬ s.dom k
 | [],[],_,_=>sA
 | [],_::_,h,_=>h.elim
 | _::_,[],h,_=>h.elim
 | i::r,e::s,h,hn=>by
  obtain⟨n1,n2⟩:=yW.1 hn;refine jl.2 ⟨fun d hd k O hk2=>?_,pZ.pw hp h.2 n2⟩;obtain⟨j,hj,h2⟩:=pZ.get h.2 d hd;have hij:i≠j:=fun e=>n1 (e▸hj);obtain⟨l1,e1⟩:=bR.1 h.1;obtain⟨l2,e2⟩:=bR.1 h2;rcases yX hij with hlt | hlt
  ·exact eC.1 hp i j l1 l2 hlt k (by rw [e1]; exact O) (by rw [e2]; exact hk2)
  ·exact eC.1 hp j i l2 l1 hlt k (by rw [e2]; exact hk2) (by rw [e1]; exact O)
theorem St.meet (h:St W M T n G D F a w) (is:List Nat) (hn:is.Nodup) (hG:Py G G') (hD:pZ D is D') (hF:GJ F F'):St W M T n G' D' F' a w :=
 ((h.slot hG).sel hF.mem).res (fun r hr=>by obtain⟨i,_,hi⟩:=hD.get r hr; exact az hi) (hD.pw h.apart hn)
theorem nt (h:b=true):(!b)=false:=by rw [h]; rfl
theorem nf (h:b=false):(!b)=true:=by rw [h]; rfl
def Fl.el (f:Fl S R) (g:S->α) (h:R->α):α:=match f with
 | .go s=>g s
 | .out r=>h r
theorem Td {g:S->α} {h:R->α} (e:Fl.el (.go s) g h=r):g s=r:=e
theorem jX {s:R} {g:S->α} {h:R->α} (e:Fl.el (.out s) g h=r):h s=r:=e
def aR (P:Program) (f:Nat):Bool:=match P.funcs[f]? with
 | some fn => !(fn.name == "runtime.NumGoroutine") && fn.body.isSome
 | none=>false
theorem L7 (hf:aR P f=true) (args:Array Value) (w:World):(callFunc f args).run P w = .ok (.enter f args) w:=by
 unfold aR at hf;split at hf
 ·rename_i fn hfn;simp only [lq, sw] at hf;obtain⟨b, hb⟩ := Option.isSome_iff_exists.1 hf.2;have h1 : ¬ (fn.name == "runtime.NumGoroutine") = true := by rw [hf.1]; simp
  simp [callFunc,hfn,hb,h1];simpa using h1
 ·cases hf
theorem xO {o:Oper} {x:Operand} {cap:bG} {R:Value->World->Prop} {M':Nat->Prop} (ho:o.op = .call { callee:=.value x,args:=args,argTypes:=tys }) (I:St W M T n G D F a w) (hx:ev G x=some (.func (.func f) #[] cap.toArray)) (hf:aR P f=true) (hargs:evs G args.toList=some vs) (hc:bm P M' f (vs++cap) w R)
  (k:∀ v w',Kt M' w w'->R v w'->K (a.put o.dst v) w'):t8 P o a w K:=fun K' Q hK=>by
 have h1:(args.map a.eval)=vs.toArray:=by
  apply Dx.1;rw [Array.toList_map,I.evs hargs]
 have hr:(execOp a.eval o).run P w = .ok (.enter f (vs++cap).toArray) w:=by
  simp [execOp,ho,resolve,I.ev hx,Deferred.ofValue,invoke,h1,L7 hf]
 unfold Oper.wp;rw [hr,Oper.upon_enter];exact Calls.mono hc fun e w' ⟨v,h1,h2,h3⟩=>by subst h1; exact hK _ _ (k v w' h2 h3)
theorem bT {R:Value->World->Prop} (I:St W M T n G D F a w) (hf:aR P f=true) (hargs:evs G args.toList=some vs) (hn:Nat.blt d n=true) (hc:bm P No f vs w R)
  (k:∀ v w',R v w'->∀ a,Kt No w w'->(∀ rs:List cZ,(∀ r∈rs,r.ok w'/\∀ k,r.dom k->w.heap.size<=k)->(rs.Pairwise fun r s=>∀ k,r.dom k->¬ s.dom k)->St W M T n ((d,v)::G) (rs++D) F a w')->K a w'):t8 P ⟨some d,.call { callee:=.value (.func f),args:=args,argTypes:=tys },ty,pos,af,g⟩ a w K :=
 xO (cap:=[]) rfl I rfl hf hargs (by rw [jA]; exact hc) fun v w' O hr=>k v w' hr _ O (fun rs h1 h2=>(I.adds O rs h1 h2).put hn v)
theorem qn {x:Operand} {cap:bG} {R:Value->World->Prop} (I:St W M T n G D F a w) (hx:ev G x=some (.func (.func f) #[] cap.toArray)) (hf:aR P f=true) (hargs:evs G args.toList=some vs) (hn:Nat.blt d n=true) (hc:bm P No f (vs++cap) w R)
  (k:∀ v w',R v w'->∀ a,Kt No w w'->(∀ rs:List cZ,(∀ r∈rs,r.ok w'/\∀ k,r.dom k->w.heap.size<=k)->(rs.Pairwise fun r s=>∀ k,r.dom k->¬ s.dom k)->St W M T n ((d,v)::G) (rs++D) F a w')->K a w'):t8 P ⟨some d,.call { callee:=.value x,args:=args,argTypes:=tys },ty,pos,af,g⟩ a w K :=
 xO rfl I hx hf hargs hc fun v w' O hr=>k v w' hr _ O (fun rs h1 h2=>(I.adds O rs h1 h2).put hn v)
theorem dA {R:Value->World->Prop} {b:Nat} {cs:bG} {bt:TypeId} (I:St W M T n G D F a w) (hf:aR P f=true) (hargs:evs G args.toList=some vs) (hn:Nat.blt d n=true) (i:Nat) (hi:D[i]? = some (.box b cs bt)) (hc:bm P (fun k=>k=b) f vs w R)
  (k:∀ v w',R v w'->Kt (fun k=>k=b) w w'->∃ cs',w'.heap[b]? = some (.cells cs'.toArray bt (0,0))/\∀ a,St W M T n ((d,v)::G) (D.set i (.box b cs' bt)) F a w'->K a w'):t8 P ⟨some d,.call { callee:=.value (.func f),args:=args,argTypes:=tys },ty,pos,af,g⟩ a w K :=
 xO (cap:=[]) rfl I rfl hf hargs (by rw [jA]; exact hc) fun v w' O hr=>by
  obtain⟨cs',h1,h2⟩:=k v w' hr O;exact h2 _ ((I.turn hi (O.mono fun j hj=>by simp [cZ.dom,hj]) (r':=.box b cs' bt) h1 (fun j hj=>.inl hj)).put hn v)
theorem su {z b o m c:Nat} {k:IntKind} (ht:mr P t=some e) (he:qZ P e=some (ag,z)) (h0:0<=i) (h1:i<m) (w:World):(Instr.indexAt t (.slice (some ⟨b,o,none⟩) m c) (.int k i)).run P w = .ok (.pointer (some ⟨b,o+i.toNat*z,none⟩)) w:=by
 simp [Instr.indexAt,asIntOf,run_underlying (tF ht),h0,h1,sv he,oy]
theorem bv {R:aY α} {xs:List α} {X Y:Operand} {k:IntKind} (I:St W M T n G D F a w) (ht:mr P t=some e) (he:qZ P e=some (ag,R.size)) (hX:ev G X=some v) (hY:ev G Y=some (.int k i)) (j:Nat) (hj:F[j]? = some (aT R v xs)) (hg:bp xs i=some x) (hn:Nat.blt d n=true)
  (K':∀ b o cs,R.rel (dT T D) w cs x->∀ a,St W M T n ((d,.pointer (some ⟨b,o,none⟩))::G) D (bS b o cs::F) a w->K a w):t8 P ⟨some d,.indexAddr t X Y,ty,pos,af,g⟩ a w K:=by
 obtain⟨b,o,c,rfl,_,cs,h1,h2⟩:=aQ.get (I.get j hj:aQ R (dT T D) w v xs) hg;obtain⟨q1,q2,_⟩:=pJ hg;have hr:(execOp a.eval ⟨some d,.indexAddr t X Y,ty,pos,af,g⟩).run P w = .ok (.value (.pointer (some ⟨b,o+i.toNat*R.size,none⟩))) w:=by simp [execOp,I.ev hX,I.ev hY,su ht he q1 q2]
 exact Aw hr (K' b _ cs h1 _ ((I.put hn _).fact (bS b _ cs) h2))
theorem km {R:aY α} {xs:List α} (I:St W M T n G D F a w) (ht:mr P t=some e) (he:qZ P e=some (ag,R.size)) (j:Nat) (hj:F[j]? = some (aT R v xs)) (hg:bp xs i=some x) :
  ∃ b o cs,R.rel (dT T D) w cs x/\(∀ {E:Nat->Prop} {d:Option Nat} {ty:TypeId} {X Y:Operand} {pos:String} {af:Array Edge} {g:Option (Nat×Bool)} {k:IntKind},ev G X=some v->ev G Y=some (.int k i)->Ye P ⟨d,.indexAddr t X Y,ty,pos,af,g⟩ a E w (.pointer (some ⟨b,o,none⟩)))/\St W M T n G D (bS b o cs::F) a w:=by
 obtain⟨b,o,c,rfl,_,cs,h1,h2⟩:=aQ.get (I.get j hj:aQ R (dT T D) w v xs) hg;obtain⟨q1,q2,_⟩:=pJ hg;refine⟨b,_,cs,h1,fun hX hY=>Ye.of fun w=>by simp [execOp,I.ev hX,I.ev hY,su ht he q1 q2],I.fact (bS b _ cs) h2⟩
end
end
section
open Go.RowKit
variable {α:Type} {R:aY α} {bt d:Nat} {e:TypeId} {hi lo:Int} {sz:Nat} {t ty:TypeId} {v:Value} {xs ys:List α}
variable {pos:String} {af:Array Edge} {g:Option (Nat×Bool)}
def Bh (P:Program) (t:TypeId):Option (TypeId×Nat×Nat):=match P.underlying t with
 | some (.slice e)=>match P.info? e with
  | some i=>match i.zero with
   | some z=>cond (Nat.beq z.cells.size i.size&&Nat.blt 0 i.size) (some (e,i.size,i.bytes)) none
   | none=>none
  | none=>none
 | _=>none
theorem wV {P:Program} (h:Bh P t=some (e,sz,bt)):GE P t e sz bt:=by
 unfold Bh at h;split at h
 ·rename_i e' hu;split at h
  ·rename_i i hi;split at h
   ·rename_i z hz;cases hc:(Nat.beq z.cells.size i.size&&Nat.blt 0 i.size) with
    | false=>rw [hc] at h; cases h
    | true =>
     rw [hc] at h;simp only [cond_true,cw,y4] at h;obtain⟨rfl,rfl,rfl⟩:=h;simp only [lq] at hc;exact⟨hu,⟨i,z,hi,hz,rfl,rfl,xC hc.1⟩,fw hc.2⟩
   ·cases h
  ·cases h
 ·cases h
def Vg (len size:Nat):List (Nat×Nat):=(List.range len).map fun i=>(i*size,size)
def Vz (zc:bG) (k:Nat):bG:=((Array.range k).map (zc.toArray[· % zc.toArray.size]!)).toList
section
variable {P:Program} {W:World} {M T E:Nat->Prop} {n:Nat} {G G':List (Nat×Value)} {D D':List cZ} {F F':List co} {a:Act} {w w':World} {K:Act->World->Prop} {Q:Exit->Act->World->Prop}
theorem bq {len:Nat} {ps:List (Nat×Operand)} {zs zl ws:bG} {us:List (bG)} {vs:List (Nat×Value)} (I:St W M T n G D F a w) (he:Bh P t=some (e,sz,bt)) (hz:gR P e=some zs) (hzl:Vz zs (len*sz)=zl) (hv:evp G ps=some vs) (hcs:Cs vs us) (hf:EB (Vg len sz) zl vs us=some ws) (hl:Nat.ble (len*sz) 1000=true) (hl0:Nat.blt 0 len=true) (hn:Nat.blt d n=true)
  (k:∀ b a w',Kt No w w'->St W M T n ((d,.slice (some ⟨b,0,none⟩) len len)::G) (.box b ws e::D) F a w'->K a w'):t8 P ⟨some d,.buildSlice t len ps.toArray,ty,pos,af,g⟩ a w K:=by
 obtain⟨ht,⟨i,z,hi,hz0,hsz,hby,hzc⟩,hpos⟩:=wV he;have hzz:z.cells.toList=zs:=by
  unfold gR at hz;rw [hi] at hz;simp only [hz0,cw] at hz;exact hz
 have h1:=fw hl;have h2:0<len:=fw hl0;have hfill:=FK (place:=fun i=>some (i*sz,sz)) (pl:=Vg len sz) (fun i q hq=>by
  unfold Vg at hq;rw [uy] at hq;cases hr:(List.range len)[i]? with
  | none=>rw [hr] at hq; cases hq
  | some j =>
   rw [hr] at hq;simp only [nG,cw] at hq;have:=bR.1 hr;obtain⟨_,hj⟩:=this;simp only [List.getElem_range] at hj;subst hj; rw [<- hq]) vs us zl ws hcs hf
 subst hsz;have hcells:((Array.range (len*i.size)).map (z.cells[· % z.cells.size]!))=zl.toArray:=by
  rw [<- hzl]; unfold Vz; rw [<- hzz]
 have hev:(ps.toArray.map (fun p=>(p.1,a.eval p.2))).toList=vs:=by rw [<- I.evp hv]; simp
 have hr:(Instr.buildSlice t len (ps.toArray.map (fun p=>(p.1,a.eval p.2)))).run P w = .ok (.slice (some ⟨w.heap.size,0,none⟩) len len) (w.alloc (.cells ws.toArray e)) :=
  run_buildSlice w t e len _ ws.toArray i z ht hi hz0 (by omega) (by have:=Nat.mul_pos h2 hpos; omega) (by rw [hcells,hev]; exact hfill)
 have hr2:(execOp a.eval ⟨some d,.buildSlice t len ps.toArray,ty,pos,af,g⟩).run P w = .ok (.value (.slice (some ⟨w.heap.size,0,none⟩) len len)) (w.alloc (.cells ws.toArray e)):=by
  show (do pure (Next.value (<- Instr.buildSlice t len (ps.toArray.map fun p=>(p.1,a.eval p.2)))):Sem Next).run P w=_;rw [Sem.run_bind,hr]; rfl
 exact Aw hr2 (k w.heap.size _ _ (Kt.alloc _ _) ((I.alloc ws e).put hn _))
theorem St.lit {b m:Nat} {us:bG} (I:St W M T n G D F a w) (i:Nat) (hi:D[i]? = some (.box b us e)) (C:0<R.size) (hr:bf R (dT T D) w us xs) (hm:m=xs.length) (hlim:Nat.ble m 1000=true):St W M T n G (D.set i (.own (.slice (some ⟨b,0,none⟩) m m) e R.size us)) (au R us xs::F) a w:=by
 have hok:=I.own _ (az hi);have h1:=fw hlim;subst hm;have h2:=I.fact (au R us xs) hr;refine h2.turn hi (aw _ _) ⟨.inr ⟨b,0,xs.length,xs.length,us.toArray,rfl,hr.1,cT _,.of hok,bx _,by unfold maxLen; omega,by rw [kj,<- hr.1]; simp,fun j u hu=>by rw [kj]; simpa using hu⟩,C⟩ (fun j hj=>.inl hj)
theorem St.zn (R:aY α) (e:TypeId) (C:0<R.size) (I:St W M T n G D F a w):St W M T n G (.own (.slice none 0 0) e R.size []::D) (au R [] []::F) a w :=
 (I.add (aw _ _) (.own (.slice none 0 0) e R.size []) ⟨mN.nil_ _ _ _ _,C⟩ (fun k O=>by simp [cZ.dom,Value.ownBlock] at O)).fact _ (bf.nil_ _ _ _)
theorem N5 {o:Oper} {s x:Operand} {cl news:bG} {A:Option Addr} {m c:Nat} (ho:o.op = .call { callee:=.builtin .append,args:=#[s,x],argTypes:=#[t,t] }) (I:St W M T n G D F a w) (he:Bh P t=some (e,sz,bt)) (hs:ev G s=some v) (hx:ev G x=some (.slice A m c)) (hown:mN w 0 e sz v cl) (hl:news.length=m*sz) (hat:At w A news) (h1:∀ u∈news,u.oneCell'=true) (hz:(cl.length+news.length)<=4294967296*sz) (hb:Nat.ble (sz*bt) 32768=true) (hbs:Nat.ble sz 32768=true)
  (k:∀ v' w',Kt (fun j=>v.ownBlock=some j) w w'->mN w' 0 e sz v' (cl++news)->(∀ j,v'.ownBlock=some j->v.ownBlock=some j∨w.heap.size<=j)->K (a.put o.dst v') w'):t8 P o a w K:=fun K' Q hK=>by
 have q1:=fw hb;have q2:=fw hbs;have q3:(cl.length+news.length)*bt<=4294967296*(sz*bt):=by rw [<- Nat.mul_assoc]; exact lU _ hz
 exact uN w s x t ho e sz bt (wV he) 0 v cl (I.ev hs) hown A m c news (I.ev hx) hl hat h1 (by unfold maxLen; omega) (by omega) (cT _) fun v' w' h2 h3 h4=>hK _ _ (k v' w' (Kt.grown h3) h2 (fun j hj=>by
  rcases h4 with h4 | h4
  ·exact .inl (h4▸hj)
  ·rw [h4] at hj; injection hj with hj; exact .inr (by omega)))
theorem cr {s x:Operand} {u:Value} {cl:bG} (I:St W M T n G D F a w) (he:Bh P t=some (e,R.size,bt)) (hb:Nat.ble (R.size*bt) 32768=true) (hbs:Nat.ble R.size 32768=true) (hs:ev G s=some v) (hx:ev G x=some u) (i:Nat) (hi:D[i]? = some (.own v e R.size cl)) (p:Nat) (hp:F[p]? = some (au R cl xs)) (q:Nat) (hq:F[q]? = some (aT R u ys)) (hroom:cm (xs.length+ys.length)=true) (hn:Nat.blt d n=true)
  (k:∀ v' cl' a w',Kt (fun j=>v.ownBlock=some j) w w'->St W M T n ((d,v')::G) (D.set i (.own v' e R.size cl')) (au R cl' (xs++ys)::F) a w'->K a w'):t8 P ⟨some d,.call { callee:=.builtin .append,args:=#[s,x],argTypes:=#[t,t] },ty,pos,af,g⟩ a w K:=by
 obtain⟨hown,hsz⟩:=I.own _ (az hi);have hrow:bf R (dT T D) w cl xs:=I.get p hp;have hsl:aQ R (dT T D) w u ys:=I.get q hq;obtain⟨A,c,rfl,_⟩:=id hsl;obtain⟨_,cs,hat,hr⟩:=hsl.rows hsz;have h1:=Da hroom;refine N5 rfl I he hs hx hown hr.1 hat (hr.cell hsz) (by rw [hrow.1,hr.1,<- ga]; exact lU _ h1) hb hbs fun v' w' h2 h3 h4=>?_;have h5:=I.fact (au R (cl++cs) (xs++ys)) (hrow.append hr);exact k v' (cl++cs) _ w' h2 ((h5.turn hi (r':=.own v' e R.size (cl++cs)) h2 ⟨h3,hsz⟩ h4).put hn v')
theorem EK (z:Array Value):∀ m:Nat,(madeCells z (m*z.size)).toList=(List.replicate m z.toList).flatten
 | 0=>by simp [madeCells]
 | m+1=>by
  have ih:=EK z m;have h1:∀ N,(madeCells z N).toList=(List.range N).map (fun k=>z[k % z.size]!):=fun N=>by simp [madeCells]
  rw [h1] at ih ⊢;rw [show (m+1)*z.size=z.size+m*z.size by rw [ga]; omega,List.range_add,wF,BB,List.replicate_succ,List.flatten_cons,<- ih];congr 1
  ·apply Ix;intro k;rw [uy];by_cases O:k<z.size
   ·rw [List.getElem?_range O,nG,DB O,getElem!_pos z k O];simp [O]
   ·rw [vu (by simpa using O),vu (by simpa using O)]; rfl
  ·apply Fk;intro k _;simp only [Function.comp,Nat.add_mod_left]
theorem bf.rep {α:Type} {R:aY α} {T:Nat->Prop} {w:World} {cs:bG} {x:α} (h:R.rel T w cs x):∀ m:Nat,bf R T w (List.replicate m cs).flatten (List.replicate m x)
 | 0=>bf.nil_ _ _ _
 | m+1=>by rw [List.replicate_succ,List.replicate_succ,List.flatten_cons]; exact (aN h).append (bf.rep h m)
theorem yP {isS:Bool} {len cap:Nat} {k1 k2:IntKind} (h0:0<=lo) (h1:lo<=hi) (h2:hi<=len) (h3:len<=cap) (w:World) (olo ohi:Option Value) (hlo:olo=some (.int k1 lo)∨(olo=none/\lo=0)) (hhi:ohi=some (.int k2 hi)∨(ohi=none/\hi=len)):(Instr.sliceBounds isS len cap olo ohi none).run P w = .ok (lo.toNat,hi.toNat,cap) w:=by
 have a1:hi<=cap:=by omega
 have a2:0<=hi:=by omega
 have a3:lo<=(hi.toNat:Int):=by omega
 rcases hlo with rfl | ⟨rfl,rfl⟩ <;> rcases hhi with rfl | ⟨rfl,rfl⟩
 ·simp [Instr.sliceBounds,Instr.sliceBound,asIntOf,h0,a1,a2,a3];intro h;omega
 ·simp [Instr.sliceBounds,Instr.sliceBound,asIntOf,h0,h1]
 ·simp [Instr.sliceBounds,Instr.sliceBound,asIntOf,a1,a2]
 ·simp [Instr.sliceBounds]
theorem vo (h:sH xs lo hi=some ys):0<=lo/\lo<=hi/\hi<=xs.length/\ys=(xs.take hi.toNat).drop lo.toNat:=by
 unfold sH at h;split at h
 ·rename_i hc; injection h with h; exact⟨hc.1,hc.2.1,hc.2.2,h.symm⟩
 ·cases h
theorem aQ.cut {T:Nat->Prop} {A:Option Addr} {c l h:Nat} (hs:aQ R T w (.slice A xs.length c) xs) (h1:l<=h) (h2:h<=xs.length) (B:Option Addr) (hB:l<h->∀ b o,A=some ⟨b,o,none⟩->B=some ⟨b,o+l*R.size,none⟩):aQ R T w (.slice B (h-l) (c-l)) ((xs.take h).drop l):=by
 obtain⟨A',c',e,q1,q2,q3⟩:=hs;injection e with e1 e2 e3;subst e1 e3;have hlen:((xs.take h).drop l).length=h-l:=by simp; omega
 refine⟨B,c-l,by rw [hlen],by omega,by omega,?_⟩;by_cases hlt:l<h
 ·rcases q3 with q3 | ⟨b,off,rfl,hc⟩
  ·subst q3; simp at h2; omega
  ·refine .inr ⟨b,off+l*R.size,hB hlt b off rfl,fun k x hx=>?_⟩;rw [qT,pY] at hx;split at hx
   ·obtain⟨cs,g1,g2⟩:=hc _ x hx;exact⟨cs,g1,by rwa [show off+l*R.size+k*R.size=off+(l+k)*R.size by rw [ga]; omega]⟩
   ·cases hx
 ·left;apply DJ; omega
theorem Tj {X:Operand} {olo ohi:Option Operand} {k1 k2:IntKind} {ag:Bool} (I:St W M T n G D F a w) (ht:mr P t=some e) (he:qZ P e=some (ag,R.size)) (hX:ev G X=some v) (hlo:(∃ x,olo=some x/\ev G x=some (.int k1 lo))∨(olo=none/\lo=0)) (hhi:(∃ x,ohi=some x/\ev G x=some (.int k2 hi))∨(ohi=none/\hi=xs.length)) (j:Nat) (hj:F[j]? = some (aT R v xs)) (hg:sH xs lo hi=some ys) (hn:Nat.blt d n=true)
  (K':∀ v' a,St W M T n ((d,v')::G) D (aT R v' ys::F) a w->K a w):t8 P ⟨some d,.slice t X olo ohi none,ty,pos,af,g⟩ a w K:=by
 obtain⟨q1,q2,q3,rfl⟩:=vo hg;have hsl:aQ R (dT T D) w v xs:=I.get j hj;obtain⟨A,c,rfl,p1,p2⟩:=hsl.len;have hb:=yP (P:=P) (isS:=true) (k1:=k1) (k2:=k2) q1 q2 q3 p1 w (olo.map a.eval) (ohi.map a.eval)
  (by
    rcases hlo with⟨x,rfl,hx⟩|⟨rfl,rfl⟩
    ·exact .inl (by rw [nG,I.ev hx])
    ·exact .inr ⟨rfl,rfl⟩)
  (by
    rcases hhi with⟨x,rfl,hx⟩|⟨rfl,rfl⟩
    ·exact .inl (by rw [nG,I.ev hx])
    ·exact .inr ⟨rfl,rfl⟩)
 have hr:(execOp a.eval ⟨some d,.slice t X olo ohi none,ty,pos,af,g⟩).run P w = .ok (.value (.slice (if c=lo.toNat then A else A.map (·.add (lo.toNat*R.size))) (hi.toNat-lo.toNat) (c-lo.toNat))) w:=by
  have hx:=I.ev hX;simp [execOp,Instr.sliceAt,Instr.slice,run_underlying (tF ht),hx,hb,sv he]
 refine Aw hr (K' _ _ ((I.put hn _).fact (aT R _ _) ?_));refine hsl.cut (by omega) (by omega) _ (fun hlt b o U=>?_);rw [if_neg (by omega),U];simp [oy]
end
end
section
open Go.RowKit
variable {α:Type} {R:aY α} {cl:bG} {d:Option Nat} {e:TypeId} {k:IntKind} {p q:Int} {t ty:TypeId} {v:Value} {x:Operand} {xs:List α} {y:Operand}
variable {pos:String} {af:Array Edge} {g:Option (Nat×Bool)}
def N0 (D:List cZ):List cZ->Prop
 | []=>True
 | r::s=>(r.bare=true∨r∈D)/\N0 D s
theorem N0.sub {T:Nat->Prop} {D:List cZ}:∀ {rs:List cZ},N0 D rs->∀ k,dT T rs k->dT T D k
 | [],_,k,O=>by
  rcases O with O | ⟨r,hr,_⟩
  ·exact .inl O
  ·cases hr
 | r::s,h,k,O=>by
  rcases JR.1 O with O | O
  ·exact N0.sub h.2 k O
  ·rcases h.1 with h1 | h1
   ·exact absurd O (cZ.bare_no h1 k)
   ·exact .inr ⟨r,h1,O⟩
def jy (R:aY α) (T:Nat->Prop) (W w:World) (rs:List cZ) (e:TypeId) (v:Value) (cl:bG) (xs:List α):Prop :=
 mN w 0 e R.size v cl/\(∀ k,v.ownBlock=some k->W.heap.size<=k)/\bf R (dT T rs) w cl xs
theorem aQ.dn {T:Nat->Prop} {w:World} (h:aQ R T w v xs):aQ R (dT T []) w v xs :=
 h.sub fun k O=>.inl (by rcases O with O | ⟨r,hr,_⟩; exact O; cases hr)
theorem aQ.up {T:Nat->Prop} {D rs:List cZ} {w:World} (hi:N0 D rs) (h:aQ R (dT T D) w v xs):aQ R (dT T rs) w v xs :=
 h.sub fun k O=>.inl (hi.sub k O)
theorem jy.sl {T:Nat->Prop} {W w:World} {rs:List cZ} (hs:0<R.size) (h:jy R T W w rs e v cl xs) (hT:∀ k,T k->k<W.heap.size):aQ R T w v xs :=
 mN.rd hs h.1 (h.2.2.keep (aw _ _) fun k O=>.inl (.inl O)) fun k O ht=>by have:=h.2.1 k O; have:=hT k ht; omega
theorem F4 {w:World} {B:Nat} {sz:Nat} (h:mN w B e sz v cl):v.oneCell'=true:=by
 rcases h with⟨rfl,_⟩|⟨g,off,n,cap,cs,rfl,_⟩ <;> rfl
theorem kv (R:aY α) (T:Nat->Prop) (W w:World) (rs:List cZ) (e:TypeId):jy R T W w rs e (.slice none 0 0) [] [] :=
 ⟨mN.nil_ _ _ _ _,fun k O=>by simp [Value.ownBlock] at O,bf.nil_ _ _ _⟩
def w8 (op:BinOp) (k:IntKind) (x y:Int):Int :=
 let a:=BitVec.ofInt k.bits x
 let b:=BitVec.ofInt k.bits y
 match op with
 | .and=>k.wrap (a &&& b).toNat
 | .or=>k.wrap (a ||| b).toNat
 | .xor=>k.wrap (a ^^^ b).toNat
 | _=>k.wrap (a &&& ~~~b).toNat
def PB:BinOp->Bool
 | .and | .or | .xor | .andNot=>true
 | _=>false
section
variable {P:Program} {W:World} {M T E:Nat->Prop} {n:Nat} {G G':List (Nat×Value)} {D D' rs:List cZ} {F F':List co} {a:Act} {w w':World} {K:Act->World->Prop} {Q:Exit->Act->World->Prop}
theorem St.zo (h:St W No T n G D F a w) (hi:N0 D rs) (i:Nat) (hd:D[i]? = some (.own v e R.size cl)) (j:Nat) (hj:F[j]? = some (au R cl xs)):jy R T W w rs e v cl xs:=by
 have hm:=az hd;exact⟨(h.own _ hm).1,fun k O=>(h.free _ hm k O).2.resolve_left fun h=>h,(h.get j hj:bf R (dT T D) w cl xs).keep (aw _ _) fun k O=>.inl (hi.sub k O)⟩
theorem St.zp {v2:Value} {e2:TypeId} {sz sz2:Nat} {dm:bG} (h:St W M T n G D F a w) (i:Nat) (hi:D[i]? = some (.own v e sz cl)) (j:Nat) (hj:D[j]? = some (.own v2 e2 sz2 dm)) (hij:i≠j):∀ k,v.ownBlock=some k->v2.ownBlock≠some k:=by
 intro k O hk2;obtain⟨l1,e1⟩:=bR.1 hi;obtain⟨l2,e2⟩:=bR.1 hj;rcases yX hij with hlt | hlt
 ·exact eC.1 h.apart i j l1 l2 hlt k (by rw [e1]; exact O) (by rw [e2]; exact hk2)
 ·exact eC.1 h.apart j i l2 l1 hlt k (by rw [e2]; exact hk2) (by rw [e1]; exact O)
theorem pZ.mem {D rs:List cZ} {is:List Nat} (h:pZ D is rs):∀ r∈rs,r∈D:=fun r hr=>by
 obtain⟨i,_,hi⟩:=h.get r hr; exact az hi
theorem Rk {s:TypeId} {k' ks:IntKind} (I:St W M T n G D F a w) (hx:ev G x=some (.int k p)) (hs:P.underlying s=some (.int ks)) (ht:P.underlying t=some (.int k')):Ye P ⟨d,.convert s t x,ty,pos,af,g⟩ a E w (.int k' (k'.wrap p)) :=
 Ye.of fun w=>by
  simp [execOp,I.ev hx,convert,run_underlying hs,run_underlying ht,Conv.intToInt]
theorem Ta {ys:List α} {lo hi:Int} {ag:Bool} (I:St W M T n G D F a w) (ht:mr P t=some e) (he:qZ P e=some (ag,R.size)) (j:Nat) (hj:F[j]? = some (aT R v xs)) (hg:sH xs lo hi=some ys) :
  ∃ v',(∀ {E:Nat->Prop} {d:Option Nat} {ty:TypeId} {X:Operand} {olo ohi:Option Operand} {pos:String} {af:Array Edge} {g:Option (Nat×Bool)} {k1 k2:IntKind},ev G X=some v->((∃ x,olo=some x/\ev G x=some (.int k1 lo))∨(olo=none/\lo=0))->((∃ x,ohi=some x/\ev G x=some (.int k2 hi))∨(ohi=none/\hi=xs.length))->Ye P ⟨d,.slice t X olo ohi none,ty,pos,af,g⟩ a E w v')/\St W M T n G D (aT R v' ys::F) a w:=by
 obtain⟨q1,q2,q3,rfl⟩:=vo hg;have hsl:aQ R (dT T D) w v xs:=I.get j hj;obtain⟨A,c,rfl,p1,p2⟩:=hsl.len;refine⟨.slice (if c=lo.toNat then A else A.map (·.add (lo.toNat*R.size))) (hi.toNat-lo.toNat) (c-lo.toNat),?_,I.fact _ (hsl.cut (by omega) (by omega) _ (fun hlt b o U=>?_))⟩
 ·intro E d ty X olo ohi pos af g k1 k2 hX hlo hhi;refine Ye.of fun w=>?_;have hb:=yP (P:=P) (isS:=true) (k1:=k1) (k2:=k2) q1 q2 q3 p1 w (olo.map a.eval) (ohi.map a.eval)
   (by
     rcases hlo with⟨x,rfl,hx⟩|⟨rfl,rfl⟩
     ·exact .inl (by rw [nG,I.ev hx])
     ·exact .inr ⟨rfl,rfl⟩)
   (by
     rcases hhi with⟨x,rfl,hx⟩|⟨rfl,rfl⟩
     ·exact .inl (by rw [nG,I.ev hx])
     ·exact .inr ⟨rfl,rfl⟩)
  simp [execOp,Instr.sliceAt,Instr.slice,run_underlying (tF ht),I.ev hX,hb,sv he]
 ·rw [if_neg (by omega),U];simp [oy]
theorem T1 {tys:Array TypeId} (I:St W M T n G D F a w) (hx:ev G x=some (.int k p)) (hy:ev G y=some (.int k q)):Ye P ⟨d,.call { callee:=.builtin .max,args:=#[x,y],argTypes:=tys },ty,pos,af,g⟩ a E w (.int k (max p q)) :=
 Ye.of fun w=>by
  have h:(if q>p then q else p)=max p q:=by rw [Int.max_def]; split <;> split <;> omega
  simp only [execOp,resolve,invoke,builtin,Sem.run_bind,Sem.run_pure,Result.andThen_ok,Fm,vw,BC,I.ev hx,I.ev hy,Builtin.max_,List.foldlM_cons,List.foldlM_nil,Builtin.max2,h]
theorem Qi {tys:Array TypeId} (I:St W M T n G D F a w) (hx:ev G x=some (.int k p)) (hy:ev G y=some (.int k q)):Ye P ⟨d,.call { callee:=.builtin .min,args:=#[x,y],argTypes:=tys },ty,pos,af,g⟩ a E w (.int k (min p q)) :=
 Ye.of fun w=>by
  have h:(if q<p then q else p)=min p q:=by rw [Int.min_def]; split <;> split <;> omega
  simp only [execOp,resolve,invoke,builtin,Sem.run_bind,Sem.run_pure,Result.andThen_ok,Fm,vw,BC,I.ev hx,I.ev hy,Builtin.min_,List.foldlM_cons,List.foldlM_nil,Builtin.min2,h]
theorem Du {op:BinOp} {t':TypeId} (I:St W M T n G D F a w)
  (hx:ev G x=some (.int k p)) (hy:ev G y=some (.int k q)) (hv:PB op=true):Ye P ⟨d,.binOp op t x y t',ty,pos,af,g⟩ a E w (.int k (w8 op k p q)) :=
 Ye.of fun w=>by
  have h1:=I.ev hx;have h2:=I.ev hy;cases op <;> simp only [PB,reduceCtorEq] at hv <;> simp [execOp,h1,h2,eqGuard,binOp,Op.intBits,w8]
end
end
section
open Go.RowKit
variable {α:Type} {R:aY α} {X:Operand} {ag:Bool} {b:Nat} {cl cs:bG} {d:Nat} {e e':TypeId} {hi i lo:Int} {o p:Nat} {r r':cZ} {sz:Nat} {t ty:TypeId} {v:Value} {x:α} {xs ys:List α} {z:Nat}
variable {pos:String} {af:Array Edge} {g:Option (Nat×Bool)}
theorem Wn {T:Nat->Prop} (w:World):Nw T (dT T []) w:=fun k O=>.inl (by rcases O with O | ⟨r,hr,_⟩; exact O; cases hr)
def Pu (er:Value) (b:Bool):Prop:=(b=false/\er = .nilIface)∨(b=true/\∃ t v,er = .iface t v)
section
variable {P:Program} {W:World} {M T E:Nat->Prop} {n:Nat} {G G':List (Nat×Value)} {D D' rs:List cZ} {F F':List co} {a:Act} {w w':World} {K:Act->World->Prop} {Q:Exit->Act->World->Prop}
theorem Pi {d:Option Nat} {t':TypeId} {x:Operand} {er:Value} {b:Bool} (I:St W M T n G D F a w)
  (hx:ev G x=some er) (he:Pu er b) (ht:P.underlying t=some (.interface (P.methodsAt t))):Ye P ⟨d,.binOp .neq t x (.const .nilIface) t',ty,pos,af,g⟩ a E w (.bool b) :=
 Ye.of fun w=>by
  have h1:=I.ev hx;have hc:a.eval (.const .nilIface) = .nilIface:=rfl;rcases he with⟨rfl,rfl⟩|⟨rfl,tt,vv,rfl⟩
  ·have h3:=run_equal_nil_nil (P:=P) w t ht;simp only [execOp,h1,hc,eqGuard,binOp];simp [h3]
  ·have h3:=run_equal_held_nil (P:=P) w t tt vv ht;simp only [execOp,h1,hc,eqGuard,binOp];simp [h3]
theorem Cc (I:St W M T n G D F a w) (ht:mr P t=some e) (i:Nat) (hi:F[i]? = some (aT R v xs)) :
  ∃ b:Bool,(b=true->xs=[])/\(∀ {E:Nat->Prop} {d:Option Nat} {ty:TypeId} {x:Operand} {t':TypeId} {pos:String} {af:Array Edge} {g:Option (Nat×Bool)},ev G x=some v->Ye P ⟨d,.binOp .eql t x (.const (.slice none 0 0)) t',ty,pos,af,g⟩ a E w (.bool b))/\(∀ {E:Nat->Prop} {d:Option Nat} {ty:TypeId} {x:Operand} {t':TypeId} {pos:String} {af:Array Edge} {g:Option (Nat×Bool)},ev G x=some v->Ye P ⟨d,.binOp .neq t x (.const (.slice none 0 0)) t',ty,pos,af,g⟩ a E w (.bool !b)):=by
 obtain⟨A,c,rfl,h1,h2,h3⟩:aQ R (dT T D) w v xs:=I.get i hi;refine⟨A.isNone,fun hb=>?_,fun {E d ty x t' pos af g} hx=>Ye.of fun w=>?_,fun {E d ty x t' pos af g} hx=>Ye.of fun w=>?_⟩
 ·rcases h3 with h3 | ⟨b,off,rfl,_⟩
  ·exact h3
  ·cases hb
 ·have h4:=I.ev hx;have hc:a.eval (.const (.slice none 0 0)) = .slice none 0 0:=rfl;have h5:=run_equal_slice_nil (P:=P) w t e A xs.length c (tF ht);simp only [execOp,h4,hc,eqGuard,binOp];simp [h5]
 ·have h4:=I.ev hx;have hc:a.eval (.const (.slice none 0 0)) = .slice none 0 0:=rfl;have h5:=run_equal_slice_nil (P:=P) w t e A xs.length c (tF ht);simp only [execOp,h4,hc,eqGuard,binOp];simp [h5]
theorem xN (R:aY α) {bt:Nat} (I:St W M T n G D F a w) (he:Bh P t=some (e,R.size,bt)) (hn:Nat.blt d n=true)
  (k:∀ v' a w',Kt No w w'->St W M T n ((d,v')::G) (.own v' e R.size []::D) (au R [] []::F) a w'->K a w'):t8 P ⟨some d,.buildSlice t 0 #[],ty,pos,af,g⟩ a w K:=by
 obtain⟨ht,⟨i,z,hi,hz0,hsz,hby,hzc⟩,hpos⟩:=wV he;have hr:(execOp a.eval ⟨some d,.buildSlice t 0 #[],ty,pos,af,g⟩).run P w = .ok (.value (.slice (some ⟨w.heap.size,0,none⟩) 0 0)) (w.alloc (.cells #[] e)):=by
  simp [execOp,Instr.buildSlice,run_underlying ht,sizeOf,typeInfo,hi,Instr.fill,newRow,Array.range_zero']
 have hown:mN (w.alloc (.cells #[] e)) 0 e R.size (.slice (some ⟨w.heap.size,0,none⟩) 0 0) []:=mN.made w 0 e R.size #[] 0 (cT _) (by simp) (cT _);have h2:=I.fact (au R [] []) (bf.nil_ _ _ _);exact Aw hr (k _ _ _ (Kt.alloc _ _) ((h2.add (Kt.alloc _ _) (.own (.slice (some ⟨w.heap.size,0,none⟩) 0 0) e R.size []) ⟨hown,hpos⟩ (fun j hj=>by simp only [cZ.dom,Value.ownBlock,cw] at hj; omega)).put hn _))
def Ru (v:Value) (b o sz:Nat) (i:Int) (p:Nat):Prop:=∃ off m c,v = .slice (some ⟨b,off,none⟩) m c/\o=off+i.toNat*sz/\p=i.toNat*sz
theorem Kc {e:Nat} {sz2:Nat} (h:Ru v b o sz i p):(cZ.own v e sz2 cl).dom b:=by obtain⟨off,m,c,rfl,_,_⟩:=h; rfl
theorem FZ (I:St W M T n G D F a w) (q:Nat) (hq:D[q]? = some (.own v e R.size cl)) (j:Nat) (hj:F[j]? = some (au R cl xs)) (hg:bp xs i=some x) :
  ∃ b off c,v = .slice (some ⟨b,off,none⟩) xs.length c/\∃ cs,R.rel (dT T D) w cs x/\(∀ k u,cs[k]? = some u->cl[i.toNat*R.size+k]? = some u):=by
 obtain⟨q1,q2,q3⟩:=pJ hg;obtain⟨hown,hsz⟩:=I.own _ (az hq);have hrow:bf R (dT T D) w cl xs:=I.get j hj;obtain⟨cs,h1,h2⟩:=hrow.2 _ _ q3;rcases hown with⟨rfl,rfl⟩|⟨gb,off,m,cap,row,rfl,p1,p2,p3,p4,p5,p6,p7⟩
 ·have h0:xs.length*R.size=0:=hrow.1.symm;rcases Nat.mul_eq_zero.1 h0 with h | h <;> omega
 ·have hm:m=xs.length:=yY hsz (p1.symm.trans hrow.1);subst hm;exact⟨gb,off,cap,rfl,cs,h1,h2⟩
theorem dK {Y:Operand} {k:IntKind} (I:St W M T n G D F a w) (ht:mr P t=some e) (he:qZ P e=some (ag,R.size)) (hX:ev G X=some v) (hY:ev G Y=some (.int k i)) (q:Nat) (hq:D[q]? = some (.own v e' R.size cl)) (j:Nat) (hj:F[j]? = some (au R cl xs)) (hg:bp xs i=some x) (hn:Nat.blt d n=true)
  (K':∀ b o p cs,R.rel (dT T D) w cs x->Ru v b o R.size i p->(∀ k u,cs[k]? = some u->cl[p+k]? = some u)->∀ a,St W M T n ((d,.pointer (some ⟨b,o,none⟩))::G) D F a w->K a w):t8 P ⟨some d,.indexAddr t X Y,ty,pos,af,g⟩ a w K:=by
 obtain⟨b,off,c,rfl,cs,h1,h2⟩:=FZ I q hq j hj hg;obtain⟨q1,q2,_⟩:=pJ hg;have hr:(execOp a.eval ⟨some d,.indexAddr t X Y,ty,pos,af,g⟩).run P w = .ok (.value (.pointer (some ⟨b,off+i.toNat*R.size,none⟩))) w:=by simp [execOp,I.ev hX,I.ev hY,su ht he q1 q2]
 exact Aw hr (K' b _ _ cs h1 ⟨off,_,_,rfl,rfl,rfl⟩ h2 _ (I.put hn _))
theorem cq (I:St W M T n G D F a w) (ht:mr P t=some e) (he:qZ P e=some (ag,R.size)) (q:Nat) (hq:D[q]? = some (.own v e' R.size cl)) (j:Nat) (hj:F[j]? = some (au R cl xs)) (hg:bp xs i=some x) :
  ∃ b o p cs,R.rel (dT T D) w cs x/\Ru v b o R.size i p/\(∀ k u,cs[k]? = some u->cl[p+k]? = some u)/\(∀ {E:Nat->Prop} {d:Option Nat} {ty:TypeId} {X Y:Operand} {pos:String} {af:Array Edge} {g:Option (Nat×Bool)} {k:IntKind},ev G X=some v->ev G Y=some (.int k i)->Ye P ⟨d,.indexAddr t X Y,ty,pos,af,g⟩ a E w (.pointer (some ⟨b,o,none⟩))):=by
 obtain⟨b,off,c,rfl,cs,h1,h2⟩:=FZ I q hq j hj hg;obtain⟨q1,q2,_⟩:=pJ hg;exact⟨b,_,_,cs,h1,⟨off,_,_,rfl,rfl,rfl⟩,h2,fun hX hY=>Ye.of fun w=>by simp [execOp,I.ev hX,I.ev hY,su ht he q1 q2]⟩
theorem bY {d:Option Nat} {x:Operand} {k:Nat} {us:bG} (I:St W M T n G D F a w) (ht:qZ P t=some (ag,z)) (q:Nat) (hq:D[q]? = some (.own v e sz cl)) (ho:Ru v b o sz i p) (hc:∀ k u,cs[k]? = some u->cl[p+k]? = some u) (hx:ev G x=some (.pointer (some ⟨b,o+k,none⟩))) (hE:¬ E b)
  (hu:(cs.drop k).take z=us) (hl:us.length=z) (hz:ag=false->z=1):Ye P ⟨d,.load t x,ty,pos,af,g⟩ a E w (bF ag us):=fun w' O=>by
 obtain⟨hown,hsz⟩:=I.own _ (az hq);obtain⟨off,m,c,rfl,rfl,rfl⟩:=ho;rcases hown with⟨h,_⟩|⟨gb,off',m',cap,row,h,p1,p2,p3,p4,p5,p6,p7⟩
 ·cases h
 ·injection h with h1 h2 h3;injection h1 with h1;injection h1 with h1 h4;subst h1 h4;have hr':=p3.eqb (O.block b p3.lt hE);have:=yQ (P:=P) (b:=b) (o:=off+i.toNat*sz+k) ht hl hz w' (fun j u hj=>by
   rw [hr'.cell];rw [<- hu,pY] at hj;split at hj
   ·rw [qT] at hj;have:=p7 _ u (hc _ u hj);rwa [show off+(i.toNat*sz+(k+j))=off+i.toNat*sz+k+j by omega] at this
   ·cases hj)
  simp [execOp,I.ev hx,this]
theorem BT (ht:qZ P t=some (ag,z)) {row:Array Value} (hr:BF w b row e) (hz:v.cells.toList.length=z) (hl:o+z<=row.size) (h1:∀ u∈v.cells.toList,u.oneCell'=true) :
  ∃ row':Array Value,(Instr.storeAt t (.pointer (some ⟨b,o,none⟩)) v).run P w = .ok () (w.setCells b o v.cells.toList)/\BF (w.setCells b o v.cells.toList) b row' e/\row'.size=row.size/\∀ y,row'[y]? = if o<=y/\y<o+z then v.cells.toList[y-o]? else row[y]?:=by
 have h2:=run_storeCells_cells (P:=P) b o v.cells.toList 0 w (fun j hj=>by rw [mz,hr.cell,xD (by omega)]; rfl) (fun j hj=>by rw [mz]; exact hr.free (by omega)) h1;simp only [mz] at h2;have h3:v.cells.size=z:=by rw [<- hz]; simp
 obtain⟨fz,hg0,hfz⟩:=id hr;obtain⟨row',c1,c2,c3,c4⟩:=eB b e fz v.cells.toList o w row hg0;refine⟨row',by simp [Instr.storeAt,Instr.sureAddr,storeVar,sv ht,h3,h2],⟨fz,c1,by rw [c2]; exact hfz⟩,c2,fun y=>?_⟩;by_cases hy:o<=y/\y<o+z
 ·rw [if_pos hy];have hj:y-o<v.cells.toList.length:=by omega
  have:=c4 (by omega) (y-o) _ (bh hj);rw [show o+(y-o)=y by omega] at this;rw [this,bh hj]
 ·rw [if_neg hy];exact c3 y (by omega)
theorem Ab (cs us:bG) (o j:Nat) (hl:o+us.length<=cs.length):(sF cs o us)[j]? = if o<=j/\j<o+us.length then us[j-o]? else cs[j]?:=by
 unfold sF;rw [cA,KB,gQ,A4 (by omega)];by_cases h1:j<o
 ·rw [if_pos h1,pY,if_pos h1,if_neg (by omega)]
 ·rw [if_neg h1,KB];by_cases h2:j<o+us.length
  ·rw [if_pos (by omega),if_pos ⟨by omega,h2⟩]
  ·rw [if_neg (by omega),if_neg (by omega),qT];congr 1; omega
theorem ig {x':α} {Y:Operand} {k:Nat} {u:Value} {us:bG} (I:St W M T n G D F a w) (hX:ev G X=some (.pointer (some ⟨b,o+k,none⟩))) (hY:ev G Y=some u) (hu:u.cells.toList=us) (ht:qZ P t=some (ag,z)) (q:Nat) (hq:D[q]? = some (.own v e R.size cl)) (j:Nat) (hj:F[j]? = some (au R cl xs)) (ho:Ru v b o R.size i p) (hc:∀ k u,cs[k]? = some u->cl[p+k]? = some u) (hg:bp xs i=some x) (hrel:R.rel (dT T D) w cs x)
  (hz:us.length=z) (hl:Nat.ble (k+z) cs.length=true) (hnew:R.rel (dT T D) w (sF cs k us) x')
  (K':∀ cl' w',Kt (fun j=>v.ownBlock=some j) w w'->St W M T n G (D.set q (.own v e R.size cl')) (au R cl' (xs.set i.toNat x')::F) a w'->K a w'):t8 P ⟨none,.store t X Y,ty,pos,af,g⟩ a w K:=by
 have hmem:=az hq;obtain⟨hown,hsz⟩:=I.own _ hmem;have hrow:bf R (dT T D) w cl xs:=I.get j hj;obtain⟨q1,q2,q3⟩:=pJ hg;have hle:=fw hl;have hcl:=R.len hrel;obtain⟨off,m,c,rfl,rfl,rfl⟩:=ho;rcases hown with⟨h,_⟩|⟨gb,off',m',cap,row,h,p1,p2,p3,p4,p5,p6,p7⟩
 ·cases h
 ·injection h with h1 h2 h3;injection h1 with h1;injection h1 with h1 h4;subst h1 h4 h2 h3;have hm:m=xs.length:=yY hsz (p1.symm.trans hrow.1);subst hm;have hlt:i.toNat<xs.length:=(bR.1 q3).1;have hin:i.toNat*R.size+R.size<=xs.length*R.size:=by
   have:(i.toNat+1)*R.size<=xs.length*R.size:=lU _ hlt;rw [ga] at this; omega
  have hcap:xs.length*R.size<=c*R.size:=lU _ p4;have hone:∀ y∈us,y.oneCell'=true:=by
   intro y hy;refine R.one hnew y ?_;unfold sF;exact mb _ (ov _ hy)
  subst hu;have hz2:u.cells.size=z:=by rw [<- hz]; simp
  obtain⟨row',hst,hrow',hsz',hget⟩:=BT (P:=P) (o:=off+i.toNat*R.size+k) ht p3 hz (by omega) hone;have O:Kt (fun j=>(Value.slice (some ⟨b,off,none⟩) xs.length c).ownBlock=some j) w (w.setCells b (off+i.toNat*R.size+k) u.cells.toList):=(Kt.setCells _ _ _ _).mono fun j h=>by rw [h]; rfl
  have hclen:=hrow.1;have hown':mN (w.setCells b (off+i.toNat*R.size+k) u.cells.toList) 0 e R.size (.slice (some ⟨b,off,none⟩) xs.length c) (sF cl (i.toNat*R.size+k) u.cells.toList):=by
   refine .inr ⟨b,off,xs.length,c,row',rfl,?_,cT _,hrow',p4,p5,by rw [hsz']; exact p6,fun y v hv=>?_⟩
   ·unfold sF; simp only [br,gQ,sL]; omega
   ·rw [Ab _ _ _ _ (by omega)] at hv;rw [hget];by_cases hy:i.toNat*R.size+k<=y/\y<i.toNat*R.size+k+u.cells.toList.length
    ·rw [if_pos hy] at hv;rw [if_pos (by omega)];rw [show off+y-(off+i.toNat*R.size+k)=y-(i.toNat*R.size+k) by omega]; exact hv
    ·rw [if_neg hy] at hv;rw [if_neg (by omega)];exact p7 y v hv
  have hrows:bf R (dT T D) w (sF cl (i.toNat*R.size+k) u.cells.toList) (xs.set i.toNat x'):=by
   refine⟨by unfold sF; simp only [br,gQ,sL,Fj]; omega,fun y z' hz'=>?_⟩;rw [DN] at hz';by_cases hy:i.toNat=y
   ·rw [if_pos hy,if_pos hlt] at hz';simp only [cw] at hz';subst hz' hy;refine⟨_,hnew,fun s v hv=>?_⟩;rw [Ab _ _ _ _ (by omega)] at hv ⊢;by_cases hs:k<=s/\s<k+u.cells.toList.length
    ·rw [if_pos hs] at hv;rw [if_pos (by omega),show i.toNat*R.size+s-(i.toNat*R.size+k)=s-k by omega]; exact hv
    ·rw [if_neg hs] at hv;rw [if_neg (by omega)];exact hc s v hv
   ·rw [if_neg hy] at hz';obtain⟨ds,d1,d2⟩:=hrow.2 y z' hz';refine⟨ds,d1,fun s v hv=>?_⟩;have hsl:s<R.size:=by rw [<- R.len d1]; exact (bR.1 hv).1
    rw [Ab _ _ _ _ (by omega),if_neg]
    ·exact d2 s v hv
    ·rintro⟨r1,r2⟩;rcases yX hy with hlt2 | hlt2
     ·have:(i.toNat+1)*R.size<=y*R.size:=lU _ hlt2;rw [ga] at this; omega
     ·have:(y+1)*R.size<=i.toNat*R.size:=lU _ hlt2;rw [ga] at this; omega
  have hS2:=I.fact (au R (sF cl (i.toNat*R.size+k) u.cells.toList) (xs.set i.toNat x')) hrows;refine HH (by simp [execOp,I.ev hX,I.ev hY,hst]) (K' (sF cl (i.toNat*R.size+k) u.cells.toList) _ O ?_);exact hS2.turn hq O (r':=.own (.slice (some ⟨b,off,none⟩) xs.length c) e R.size (sF cl (i.toNat*R.size+k) u.cells.toList)) ⟨hown',hsz⟩ (fun j hj=>.inl hj)
theorem uW {T:Nat->Prop} {D:List cZ} {i:Nat} (hi:D[i]? = some r):∀ k,dT (dT T (D.eraseIdx i)) [r] k↔dT T D k:=by
 intro k;constructor
 ·rintro ((O | ⟨s,hs,O⟩) | ⟨s,hs,O⟩)
  ·exact .inl O
  ·exact .inr ⟨s,Jz hs,O⟩
  ·rw [cp] at hs; subst hs; exact .inr ⟨s,az hi,O⟩
 ·rintro (O | ⟨s,hs,O⟩)
  ·exact .inl (.inl O)
  ·obtain⟨j,hj,e⟩:=IB hs;by_cases hji:j=i
   ·subst hji;have:s=r:=by rw [<- e]; exact (bR.1 hi).2
    subst this; exact .inr ⟨_,cp.2 rfl,O⟩
   ·refine .inl (.inr ⟨s,?_,O⟩);rw [dt];rcases yX hji with h | h
    ·exact⟨j,by rw [DM,if_pos h,<- e]; exact bh hj⟩
    ·exact⟨j-1,by rw [DM,if_neg (by omega),show j-1+1=j by omega,<- e]; exact bh hj⟩
theorem St.zi (h:St W M T n G D F a w) (i:Nat) (hi:D[i]? = some (.box b cs t)):¬ dT T (D.eraseIdx i) b:=by
 rintro (O | ⟨s,hs,O⟩)
 ·exact (h.free _ (az hi) b rfl).1 O
 ·obtain⟨l1,e1⟩:=bR.1 hi;obtain⟨z,hz⟩:=dt.1 hs;rw [DM] at hz;split at hz
  ·rename_i hzi;have hzl:=(bR.1 hz).1;have:=eC.1 h.apart z i hzl l1 hzi b (by rw [(bR.1 hz).2]; exact O);rw [e1] at this; exact this rfl
  ·have hzl:=(bR.1 hz).1;have:=eC.1 h.apart i (z+1) l1 hzl (by omega) b (by rw [e1]; rfl);rw [(bR.1 hz).2] at this; exact this O
theorem aQ.lent {i:Nat} (hi:D[i]? = some r) (h:aQ R (dT T D) w v xs):aQ R (dT (dT T (D.eraseIdx i)) [r]) w v xs :=
 h.sub fun k O=>.inl ((uW hi k).1 O)
theorem aQ.back {i:Nat} (hi:D[i]? = some r) (h:aQ R (dT (dT T (D.eraseIdx i)) [r']) w v xs):aQ R (dT T (D.set i r')) w v xs:=by
 refine h.sub fun k O=>.inl ?_;have hl:=(bR.1 hi).1;have:=(uW (T:=T) (D:=D.set i r') (i:=i) (r:=r') (by rw [Ag hl]) k).2 O;rwa [List.eraseIdx_set_eq] at this
theorem St.zb (h:St W M T n G D F a w) (i:Nat) (hi:D[i]? = some (.box b cs t)):w.heap[b]? = some (.cells cs.toArray t (0,0)):=h.own _ (az hi)
theorem St.boxNew (h:St W No T n G D F a w) (i:Nat) (hi:D[i]? = some (.box b cs t)):W.heap.size<=b:=(h.free _ (az hi) b rfl).2.resolve_left fun h=>h
end
theorem wY {P:Program} {f:FuncId} {fn:Func} {c:Code} {args:bG} {w:World} {R:Value->World->Prop} (hf:P.funcs[f]? = some fn) (hb:fn.body=some c)
  (T:Nat->Prop) (n:Nat) (hn:fn.ntmps=n) (hT:∀ k,T k->k<w.heap.size) (hl:Nat.ble args.length n=true) {b:Nat} {cs:bG} {t:TypeId} (hrow:w.heap[b]? = some (.cells cs.toArray t (0,0))) (hTb:¬ T b)
  (h:∀ a,St w (fun k=>k=b) T n (oz 0 args) [.box b cs t] [] a w->c.wp P (bodyPost P fn (RL (fun k=>k=b) w R)) a w):bm P (fun k=>k=b) f args w R:=by
 refine calls_of_wp hf hb (h _ ?_);subst hn;have I:=St.start w (fun k=>k=b) T fn.ntmps args hT (fw hl) (oz 0 args) fun t v hv=>by
  obtain⟨h1,h2⟩:=B6 args 0 t v hv;simpa using h2
 exact⟨I.size,I.defers,I.slots,I.base,fun r hr=>by rw [cp] at hr; subst hr; exact hrow,fun r hr k O=>by
  rw [cp] at hr; subst hr;simp only [cZ.dom,cw] at O;subst O; exact⟨hTb,.inl rfl⟩,xA _ _,fun f hf=>(by cases hf),hT⟩
section
variable {P:Program} {W:World} {M T:Nat->Prop} {n:Nat} {G:List (Nat×Value)} {D:List cZ} {F:List co} {a:Act} {w:World} {K:Act->World->Prop}
theorem St.zm {e:Nat} {bt:TypeId} {rs:List cZ} (h:St W (fun k=>k=b) T n G D F a w) (hi:N0 D rs) (i:Nat) (hd:D[i]? = some (.own v e R.size cl)) (j:Nat) (hj:F[j]? = some (au R cl xs)) (q:Nat) (hq:D[q]? = some (.box b cs bt)) (hne:i≠q):jy R T W w rs e v cl xs:=by
 have hm:=az hd;refine⟨(h.own _ hm).1,fun k O=>(h.free _ hm k O).2.resolve_left fun h2=>?_,(h.get j hj:bf R (dT T D) w cl xs).keep (aw _ _) fun k O=>.inl (hi.sub k O)⟩;exact uf (l:=[]) h i hd O q hq rfl hne cc ⟨.blk (some b),cp.2 rfl,congrArg some h2.symm⟩
theorem St.turnAdds {w':World} (h:St W M T n G D F a w) {i:Nat} (hi:D[i]? = some r) (k:Kt (fun j=>r.dom j) w w') (hr:r'.ok w') (hd:∀ j,r'.dom j->r.dom j)
  (rs:List cZ) (h1:∀ r∈rs,r.ok w'/\∀ k,r.dom k->w.heap.size<=k) (h2:rs.Pairwise fun r s=>∀ k,r.dom k->¬ s.dom k):St W M T n G (rs++D.set i r') F a w':=by
 have hb:=h.turn hi k hr (fun j hj=>.inl (hd j hj));have hlt:∀ s∈D.set i r',∀ j,s.dom j->j<w.heap.size/\(dT T D) j:=fun s hs j hj=>by
  rcases List.mem_or_eq_of_mem_set hs with hs | rfl
  ·exact⟨cZ.lt (h.own s hs) j hj,.inr ⟨s,hs,hj⟩⟩
  ·exact⟨cZ.lt (h.own r (az hi)) j (hd j hj),.inr ⟨r,az hi,hd j hj⟩⟩
 refine⟨hb.size,hb.defers,hb.slots,hb.base,?_,?_,?_,fun f hf=>f.keep (h.facts f hf) (k.mono fun j hj=>.inr ⟨r,az hi,hj⟩) (fun j hj=>?_),hb.tlt⟩
 ·intro s hs;rcases cM.1 hs with hs | hs
  ·exact (h1 s hs).1
  ·exact hb.own s hs
 ·intro s hs j hj;rcases cM.1 hs with hs | hs
  ·have:=(h1 s hs).2 j hj;refine⟨fun ht=>?_,.inr ?_⟩
   ·have:=h.tlt j ht; omega
   ·have:=h.base.size; omega
  ·exact hb.free s hs j hj
 ·refine lT.2 ⟨h2,hb.apart,fun s hs u hu j hj hj2=>?_⟩;have:=(h1 s hs).2 j hj;have:=(hlt u hu j hj2).1;omega
 ·rcases hj with hj | ⟨s,hs,hj⟩
  ·exact .inl (.inl hj)
  ·rcases cM.1 hs with hs | hs
   ·exact .inr ((h1 s hs).2 j hj)
   ·exact .inl (hlt s hs j hj).2
theorem pb {i:Nat} (hi:D[i]? = some r) (rs:List cZ) (w:World):Nw (dT (dT T (D.eraseIdx i)) (rs++[r'])) (dT T (rs++D.set i r')) w:=fun k O=>.inl (by
 rcases O with O | ⟨s,hs,O⟩
 ·exact .inl (.inl O)
 ·rcases cM.1 hs with hs | hs
  ·exact .inr ⟨s,cM.2 (.inl hs),O⟩
  ·have hl:=(bR.1 hi).1;have:=(uW (T:=T) (D:=D.set i r') (i:=i) (r:=r') (by rw [Ag hl]) k).2 (.inr ⟨s,hs,O⟩);rw [List.eraseIdx_set_eq] at this;rcases this with this | ⟨u,hu,O⟩
   ·exact .inl this
   ·exact .inr ⟨u,cM.2 (.inr hu),O⟩)
theorem u4 {args:Array Operand} {tys:Array TypeId} {f:Nat} {vs:bG} {R:Value->World->Prop} {bt:TypeId} (I:St W M T n G D F a w) (hf:aR P f=true) (hargs:evs G args.toList=some vs) (hn:Nat.blt d n=true) (i:Nat) (hi:D[i]? = some (.box b cs bt)) (hc:bm P (fun k=>k=b) f vs w R)
  (k:∀ v w',R v w'->Kt (fun k=>k=b) w w'->∃ cs' rs,w'.heap[b]? = some (.cells cs'.toArray bt (0,0))/\(∀ r∈rs,r.ok w'/\∀ k,r.dom k->w.heap.size<=k)/\(rs.Pairwise fun r s=>∀ k,r.dom k->¬ s.dom k)/\∀ a,St W M T n ((d,v)::G) (rs++D.set i (.box b cs' bt)) F a w'->K a w'):t8 P ⟨some d,.call { callee:=.value (.func f),args:=args,argTypes:=tys },ty,pos,af,g⟩ a w K :=
 xO (cap:=[]) rfl I rfl hf hargs (by rw [jA]; exact hc) fun v w' O hr=>by
  obtain⟨cs',rs,h1,h2,h3,h4⟩:=k v w' hr O;exact h4 _ ((I.turnAdds hi (O.mono fun j hj=>by simp [cZ.dom,hj]) (r':=.box b cs' bt) h1 (fun j hj=>hj) rs h2 h3).put hn v)
theorem bf.cut {T:Nat->Prop} {w:World} (h:bf R T w cl xs) {l q:Nat} (h1:l<=q) (h2:q<=xs.length):bf R T w ((cl.take (q*R.size)).drop (l*R.size)) ((xs.take q).drop l):=by
 obtain⟨a1,a2⟩:=h;have hq:q*R.size<=xs.length*R.size:=lU _ h2;refine⟨by simp only [sL,gQ,a1]; rw [A4 hq,A4 h2,Nat.sub_mul],fun k x hx=>?_⟩;rw [qT,pY] at hx;split at hx
 ·rename_i hlt;obtain⟨cs,g1,g2⟩:=a2 _ x hx;refine⟨cs,g1,fun j u hu=>?_⟩;have hj:j<R.size:=by rw [<- R.len g1]; exact (bR.1 hu).1
  have:=g2 j u hu;rw [qT,pY,if_pos]
  ·rwa [show l*R.size+(k*R.size+j)=(l+k)*R.size+j by rw [ga]; omega]
  ·have:(l+k+1)*R.size<=q*R.size:=lU _ (by omega);rw [ga,ga] at this;omega
 ·cases hx
theorem Rd {lo hi:Nat} (I:St W M T n G D F a w) (q:Nat) (hq:D[q]? = some (.own v e R.size cl)) (j:Nat) (hj:F[j]? = some (au R cl xs)) (h1:lo<=hi) (h2:hi<=xs.length) :
  ∃ A c,v = .slice A xs.length c/\xs.length<=c/\c<=maxLen/\St W M T n G (D.set q (.own (.slice (if c=lo then A else A.map (·.add (lo*R.size))) (hi-lo) (c-lo)) e R.size ((cl.take (hi*R.size)).drop (lo*R.size)))) (au R ((cl.take (hi*R.size)).drop (lo*R.size)) ((xs.take hi).drop lo)::F) a w:=by
 obtain⟨hown,hsz⟩:=I.own _ (az hq);have hrow:bf R (dT T D) w cl xs:=I.get j hj;have hcut:=hrow.cut h1 h2;rcases hown with⟨rfl,rfl⟩|⟨gb,off,m,cap,row,rfl,p1,p2,p3,p4,p5,p6,p7⟩
 ·have h0:xs.length=0:=by
   have:=hrow.1.symm;rcases Nat.mul_eq_zero.1 this with h | h
   ·exact h
   ·omega
  have e1:lo=0:=by omega
  have e2:hi=0:=by omega
  subst e1 e2;refine⟨none,0,by rw [h0],by omega,cT _,?_⟩;have hs:=(I.fact (au R _ _) hcut).turn hq (w':=w) (aw _ _) (r':=.own (.slice none 0 0) e R.size []) ⟨.inl ⟨rfl,rfl⟩,hsz⟩ (fun k O=>.inl O);simpa using hs
 ·have hm:m=xs.length:=yY hsz (p1.symm.trans hrow.1);subst hm;refine⟨some ⟨gb,off,none⟩,cap,rfl,p4,p5,?_⟩;refine (I.fact (au R _ _) hcut).turn hq (w':=w) (aw _ _) ⟨?_,hsz⟩ (fun k O=>.inl ?_)
  ·have U:(if cap=lo then (some ⟨gb,off,none⟩:Option Addr) else (some (⟨gb,off,none⟩:Addr)).map (·.add (lo*R.size)))=some ⟨gb,if cap=lo then off else off+lo*R.size,none⟩:=by
    split <;> simp [oy]
   rw [U];refine .inr ⟨gb,_,_,_,row,rfl,?_,p2,p3,by omega,by omega,?_,?_⟩
   ·have hq2:hi*R.size<=xs.length*R.size:=lU _ h2;simp only [sL,gQ,p1]; rw [A4 hq2,Nat.sub_mul]
   ·split
    ·rename_i hc; rw [hc,sJ]; omega
    ·have hle:lo*R.size<=cap*R.size:=lU _ (by omega);rw [Nat.sub_mul]; omega
   ·intro k u hu;rw [qT,pY] at hu;split at hu
    ·rename_i hlt;have hne:¬ cap=lo:=fun hc=>by
      have:hi=lo:=by omega
      subst this; omega
     rw [if_neg hne];have:=p7 _ u hu;rwa [show off+(lo*R.size+k)=off+lo*R.size+k by omega] at this
    ·cases hu
  ·revert O;simp only [cZ.dom];split <;> simp [Value.ownBlock,oy]
theorem Rq {A:Option Addr} {m c:Nat} (I:St W M T n G D F a w) (ht:mr P t=some e) (he:qZ P e=some (ag,sz)) (q1:0<=lo) (q2:lo<=hi) (q3:hi<=m) (p1:m<=c) (hv:v = .slice A m c) {E:Nat->Prop} {d:Option Nat} {olo ohi:Option Operand} {k1 k2:IntKind} (hX:ev G X=some v) (hlo:(∃ x,olo=some x/\ev G x=some (.int k1 lo))∨(olo=none/\lo=0)) (hhi:(∃ x,ohi=some x/\ev G x=some (.int k2 hi))∨(ohi=none/\hi=m)) :
  Ye P ⟨d,.slice t X olo ohi none,ty,pos,af,g⟩ a E w (.slice (if c=lo.toNat then A else A.map (·.add (lo.toNat*sz))) (hi.toNat-lo.toNat) (c-lo.toNat)):=by
 subst hv;refine Ye.of fun w=>?_;have hb:=yP (P:=P) (isS:=true) (k1:=k1) (k2:=k2) q1 q2 q3 p1 w (olo.map a.eval) (ohi.map a.eval)
  (by
    rcases hlo with⟨x,rfl,hx⟩|⟨rfl,rfl⟩
    ·exact .inl (by rw [nG,I.ev hx])
    ·exact .inr ⟨rfl,rfl⟩)
  (by
    rcases hhi with⟨x,rfl,hx⟩|⟨rfl,rfl⟩
    ·exact .inl (by rw [nG,I.ev hx])
    ·exact .inr ⟨rfl,rfl⟩)
 simp [execOp,Instr.sliceAt,Instr.slice,run_underlying (tF ht),I.ev hX,hb,sv he]
theorem QI (I:St W M T n G D F a w) (ht:mr P t=some e) (he:qZ P e=some (ag,R.size)) (q:Nat) (hq:D[q]? = some (.own v e' R.size cl)) (j:Nat) (hj:F[j]? = some (au R cl xs)) (hg:sH xs lo hi=some ys) :
  ∃ v' cl',(∀ {E:Nat->Prop} {d:Option Nat} {ty:TypeId} {X:Operand} {olo ohi:Option Operand} {pos:String} {af:Array Edge} {g:Option (Nat×Bool)} {k1 k2:IntKind},ev G X=some v->((∃ x,olo=some x/\ev G x=some (.int k1 lo))∨(olo=none/\lo=0))->((∃ x,ohi=some x/\ev G x=some (.int k2 hi))∨(ohi=none/\hi=xs.length))->Ye P ⟨d,.slice t X olo ohi none,ty,pos,af,g⟩ a E w v')/\St W M T n G (D.set q (.own v' e' R.size cl')) (au R cl' ys::F) a w:=by
 obtain⟨q1,q2,q3,rfl⟩:=vo hg;obtain⟨A,c,hv,h1,h2,hS'⟩:=Rd (lo:=lo.toNat) (hi:=hi.toNat) I q hq j hj (by omega) (by omega);exact⟨_,_,fun hX hlo hhi=>Rq I ht he q1 q2 q3 h1 hv hX hlo hhi,hS'⟩
theorem FE (I:St W M T n G D F a w) (ht:mr P t=some e) (he:qZ P e=some (ag,R.size)) (q:Nat) (hq:D[q]? = some (.own v e' R.size cl)) (j:Nat) (hj:F[j]? = some (au R cl xs)) (hg:sH xs lo hi=some ys) :
  ∃ v',(∀ (T:Nat->Prop) (w:World),aQ R T w v xs->aQ R T w v' ys)/\(∀ {E:Nat->Prop} {d:Option Nat} {ty:TypeId} {X:Operand} {olo ohi:Option Operand} {pos:String} {af:Array Edge} {g:Option (Nat×Bool)} {k1 k2:IntKind},ev G X=some v->((∃ x,olo=some x/\ev G x=some (.int k1 lo))∨(olo=none/\lo=0))->((∃ x,ohi=some x/\ev G x=some (.int k2 hi))∨(ohi=none/\hi=xs.length))->Ye P ⟨d,.slice t X olo ohi none,ty,pos,af,g⟩ a E w v'):=by
 obtain⟨q1,q2,q3,rfl⟩:=vo hg;obtain⟨A,c,hv,h1,h2,hS'⟩:=Rd (lo:=lo.toNat) (hi:=hi.toNat) I q hq j hj (by omega) (by omega);refine⟨_,fun T w h=>?_,fun hX hlo hhi=>Rq I ht he q1 q2 q3 h1 hv hX hlo hhi⟩;subst hv;refine h.cut (by omega) (by omega) _ (fun hlt b o U=>?_);rw [if_neg (by omega),U];simp [oy]
theorem MA {olo ohi:Option Operand} {k1 k2:IntKind} (I:St W M T n G D F a w) (ht:mr P t=some e) (he:qZ P e=some (ag,R.size)) (hX:ev G X=some v) (hlo:(∃ x,olo=some x/\ev G x=some (.int k1 lo))∨(olo=none/\lo=0)) (hhi:(∃ x,ohi=some x/\ev G x=some (.int k2 hi))∨(ohi=none/\hi=xs.length)) (q:Nat) (hq:D[q]? = some (.own v e' R.size cl)) (j:Nat) (hj:F[j]? = some (au R cl xs)) (hg:sH xs lo hi=some ys) (hn:Nat.blt d n=true)
  (K':∀ v' cl' a,St W M T n ((d,v')::G) (D.set q (.own v' e' R.size cl')) (au R cl' ys::F) a w->K a w):t8 P ⟨some d,.slice t X olo ohi none,ty,pos,af,g⟩ a w K:=by
 obtain⟨v',cl',hy,hS'⟩:=QI I ht he q hq j hj hg;exact ky hS' (hy hX hlo hhi) rfl hn fun a h=>K' _ _ a h
end
end
section
open Go.RowKit
variable {r:Nat} {z:Value} {zc:bG}
variable {pos:String} {af:Array Edge} {g:Option (Nat×Bool)}
def bW {κ ν:Type} (RK:aY κ) (ak:Bool) (RV:aY ν) (av:Bool) (T:Nat->Prop) (w:World) (es:Array MapEntry) (xs:List (κ×ν)):Prop :=
 es.size=xs.length/\∀ (i:Nat) (e:MapEntry) (x:κ×ν),es[i]? = some e->xs[i]? = some x->(∃ c,RK.rel T w c x.1/\e.key=bF ak c)/\∃ c,RV.rel T w c x.2/\e.val=bF av c
theorem bW.keep {κ ν:Type} {RK:aY κ} {ak:Bool} {RV:aY ν} {av:Bool} {T T':Nat->Prop} {w w':World} {es:Array MapEntry} {xs:List (κ×ν)} (h:bW RK ak RV av T w es xs) (k:Kt T w w') (hn:Nw T T' w):bW RK ak RV av T' w' es xs :=
 ⟨h.1,fun i e x he hx=>by
  obtain⟨⟨c,h1,h2⟩,d,h3,h4⟩:=h.2 i e x he hx;exact⟨⟨c,RK.keep h1 k hn,h2⟩,d,RV.keep h3 k hn,h4⟩⟩
def ir {κ ν:Type} (RK:aY κ) (ak:Bool) (RV:aY ν) (av:Bool) (es:Array MapEntry) (xs:List (κ×ν)):co:=⟨fun T w=>bW RK ak RV av T w es xs,fun h k n=>h.keep k n⟩
def vP {κ ν:Type} (q:κ->κ->Bool) (k:κ):List (κ×ν)->Option Nat
 | []=>none
 | x::r=>cond (q k x.1) (some 0) ((vP q k r).map (· + 1))
def cJ {κ ν:Type} (q:κ->κ->Bool) (k:κ):List (κ×ν)->Option ν
 | []=>none
 | x::r=>cond (q k x.1) (some x.2) (cJ q k r)
def ew {κ ν:Type} (q:κ->κ->Bool) (k:κ) (v:ν):List (κ×ν)->List (κ×ν)
 | []=>[(k,v)]
 | x::r=>cond (q k x.1) ((k,v)::r) (x::ew q k v r)
def tK {κ ν:Type} (q:κ->κ->Bool) (k:κ):List (κ×ν)->List (κ×ν)
 | []=>[]
 | x::r=>cond (q k x.1) r (x::tK q k r)
theorem ta {κ ν:Type} {q:κ->κ->Bool} {k:κ}:∀ {xs:List (κ×ν)},vP q k xs=none->cJ q k xs=none/\(∀ v,ew q k v xs=xs++[(k,v)])/\tK q k xs=xs
 | [],_=>⟨rfl,fun _=>rfl,rfl⟩
 | x::r,h=>by
  cases hq:q k x.1 with
  | true=>simp [vP,hq] at h
  | false =>
   simp only [vP,hq,cond_false,Option.map_eq_none_iff] at h;obtain⟨h1,h2,h3⟩:=ta h;exact⟨by simp [cJ,hq,h1],fun v=>by simp [ew,hq,h2],by simp [tK,hq,h3]⟩
theorem tb {κ ν:Type} {q:κ->κ->Bool} {k:κ}:∀ {xs:List (κ×ν)} {i:Nat},vP q k xs=some i->∃ x,xs[i]? = some x/\q k x.1=true/\cJ q k xs=some x.2/\(∀ v,ew q k v xs=xs.set i (k,v))/\tK q k xs=xs.eraseIdx i
 | [],i,h=>by simp [vP] at h
 | x::r,i,h=>by
  cases hq:q k x.1 with
  | true =>
   simp only [vP,hq,cond_true,cw] at h;subst h;exact⟨x,rfl,hq,by simp [cJ,hq],fun v=>by simp [ew,hq],by simp [tK,hq]⟩
  | false =>
   simp only [vP,hq,cond_false,Gu] at h;obtain⟨j,h1,rfl⟩:=h;obtain⟨y,g1,g2,g3,g4,g5⟩:=tb h1;exact⟨y,by simpa using g1,g2,by simp [cJ,hq,g3],fun v=>by simp [ew,hq,g4],by simp [tK,hq,g5]⟩
structure Ai {κ:Type} (P:Program) (t:TypeId) (RK:aY κ) (ak:Bool) (q:κ->κ->Bool):Prop where
 check:∀ (b:Bool) (T:Nat->Prop) (w0 w:World) (c:bG) (x:κ),RK.rel T w0 c x->(Instr.checkKey b 10000 t (bF ak c)).run P w = .ok () w
 eq:∀ (T T2:Nat->Prop) (w0 w1 w:World) (c d:bG) (x y:κ),RK.rel T w0 c x->RK.rel T2 w1 d y->(Op.equal t (bF ak c) (bF ak d)).run P w = .ok (q x y) w
 now:∃ kind,P.underlying t=some kind/\∀ (T T2:Nat->Prop) (w0 w1:World) (c d:bG) (x y:κ),RK.rel T w0 c x->RK.rel T2 w1 d y->Instr.sameNow kind (bF ak c) (bF ak d)=none∨Instr.sameNow kind (bF ak c) (bF ak d)=some (q x y)
 bits:∀ (T T2:Nat->Prop) (w0 w1:World) (c d:bG) (x y:κ),RK.rel T w0 c x->RK.rel T2 w1 d y->q x y=true->Instr.sameBits 10000 (bF ak d) (bF ak c)=true
def BX (es:List MapEntry) (i0:Nat):Option Nat->Option (Nat×Value)
 | none=>none
 | some j=>(es[j]?).map fun e=>(i0+j,e.val)
theorem GN (e:MapEntry) (es:List MapEntry) (i0:Nat) (o:Option Nat):BX (e::es) i0 (o.map (· + 1))=BX es (i0+1) o:=by
 cases o with
 | none=>rfl
 | some j=>simp only [BX,nG,DL]; rw [show i0+(j+1)=i0+1+j by omega]
section
variable {κ ν:Type} {P:Program} {t:TypeId} {RK:aY κ} {ak:Bool} {q:κ->κ->Bool} {T T2:Nat->Prop} {w0 w1:World} {c:bG} {k:κ}
theorem Cg (hK:Ai P t RK ak q) (hc:RK.rel T2 w1 c k) (w:World):∀ (es:List MapEntry) (xs:List (κ×ν)) (i0:Nat),es.length=xs.length->(∀ (i:Nat) (e:MapEntry) (x:κ×ν),es[i]? = some e->xs[i]? = some x->∃ c,RK.rel T w0 c x.1/\e.key=bF ak c)->(Instr.findAsking t (bF ak c) es i0).run P w = .ok (BX es i0 (vP q k xs)) w
 | [],[],i0,_,_=>rfl
 | [],_::_,i0,h,_=>by simp at h
 | _::_,[],i0,h,_=>by simp at h
 | e::es,x::xs,i0,h,hr=>by
  obtain⟨d,h1,h2⟩:=hr 0 e x rfl rfl;have he:=hK.eq _ _ _ _ w _ _ _ _ hc h1;have ih:=Cg hK hc w es xs (i0+1) (by simpa using h) fun i e' x' a b=>hr (i+1) e' x' (by simpa using a) (by simpa using b);unfold Instr.findAsking;rw [h2,Sem.run_bind,he,Result.andThen_ok];unfold vP;cases hq:q k x.1 with
  | true=>simp [BX]
  | false =>
   rw [cond_false,GN];simpa using ih
theorem Ka (hK:Ai P t RK ak q) (hc:RK.rel T2 w1 c k) {kind:TypeDesc} (hn:∀ (T T2:Nat->Prop) (w0 w1:World) (c d:bG) (x y:κ),RK.rel T w0 c x->RK.rel T2 w1 d y->Instr.sameNow kind (bF ak c) (bF ak d)=none∨Instr.sameNow kind (bF ak c) (bF ak d)=some (q x y)) :
  ∀ (es:List MapEntry) (xs:List (κ×ν)) (i0:Nat),es.length=xs.length->(∀ (i:Nat) (e:MapEntry) (x:κ×ν),es[i]? = some e->xs[i]? = some x->∃ c,RK.rel T w0 c x.1/\e.key=bF ak c)->Instr.findNow kind (bF ak c) es i0=none∨Instr.findNow kind (bF ak c) es i0=some (BX es i0 (vP q k xs))
 | [],[],i0,_,_=>.inr rfl
 | [],_::_,i0,h,_=>by simp at h
 | _::_,[],i0,h,_=>by simp at h
 | e::es,x::xs,i0,h,hr=>by
  obtain⟨d,h1,h2⟩:=hr 0 e x rfl rfl;have ih:=Ka hK hc hn es xs (i0+1) (by simpa using h) fun i e' x' a b=>hr (i+1) e' x' (by simpa using a) (by simpa using b);unfold Instr.findNow;rw [h2];rcases hn _ _ _ _ _ _ _ _ hc h1 with h3 | h3
  ·rw [h3]; exact .inl rfl
  ·rw [h3];unfold vP;cases hq:q k x.1 with
   | true=>right; simp [BX]
   | false=>rw [cond_false,GN]; exact ih
theorem tC (hK:Ai P t RK ak q) (hc:RK.rel T2 w1 c k) (w:World) {es:List MapEntry} {xs:List (κ×ν)} (h:es.length=xs.length) (hr:∀ (i:Nat) (e:MapEntry) (x:κ×ν),es[i]? = some e->xs[i]? = some x->∃ c,RK.rel T w0 c x.1/\e.key=bF ak c):(Instr.findKey t (bF ak c) es).run P w = .ok (BX es 0 (vP q k xs)) w:=by
 obtain⟨kind,hu,hn⟩:=hK.now;unfold Instr.findKey;rw [Sem.run_bind,run_underlying hu,Result.andThen_ok];rcases Ka (T:=T) (w0:=w0) (ν:=ν) hK hc hn es xs 0 h hr with h3 | h3
 ·rw [h3]; exact Cg hK hc w es xs 0 h hr
 ·rw [h3]; rfl
end
theorem yE {P:Program} {w:World} {es:Array MapEntry} {clock:Nat} (hb:w.heap[r]? = some (.map es clock)):(getObj r).run P w = .ok (.map es clock) w:=by
 simp [getObj,Sem.run,hb]
theorem Gb {P:Program} {w:World} {es:Array MapEntry} {clock:Nat} (o:Obj) (hb:w.heap[r]? = some (.map es clock)):(setObj r o).run P w = .ok () { w with heap:=w.heap.setIfInBounds r o }:=by
 simp [setObj,Sem.run,hb]
theorem x8 {w:World} {o o':Obj} (hb:w.heap[r]? = some o):(w.heap.setIfInBounds r o')[r]? = some o'/\∀ r',r'≠r->(w.heap.setIfInBounds r o')[r']? = w.heap[r']?:=by
 have hlt:r<w.heap.size:=(A7.1 hb).1;exact⟨by simp [hlt],fun r' hne=>by simp [Ne.symm hne]⟩
def J8 (P:Program) (t:TypeId):Option (TypeId×TypeId):=match P.underlying t with
 | some (.map k e)=>some (k,e)
 | _=>none
theorem pa {P:Program} {t k e:TypeId} (h:J8 P t=some (k,e)):P.underlying t=some (.map k e):=by
 unfold J8 at h;split at h
 ·rename_i a b hu;simp only [cw,y4] at h;obtain⟨rfl,rfl⟩:=h;exact hu
 ·cases h
def Pt (P:Program) (t:TypeId):Option Value:=match P.info? t with
 | some i=>i.zero
 | none=>none
theorem Gw {P:Program} {t:TypeId} (h:Pt P t=some z) (w:World):(zeroValue t).run P w = .ok z w:=by
 unfold Pt at h;split at h
 ·rename_i i hi;simp [zeroValue,typeInfo,hi,h]
 ·cases h
section
variable {κ ν:Type} {P:Program} {W:World} {M T E:Nat->Prop} {n:Nat} {G G':List (Nat×Value)} {D D':List cZ} {F F':List co} {a:Act} {w w':World} {K:Act->World->Prop}
variable {kt et:TypeId} {RK:aY κ} {ak:Bool} {RV:aY ν} {av:Bool} {q:κ->κ->Bool} {b clock:Nat} {es:Array MapEntry} {xs:List (κ×ν)}
theorem St.mapOk (I:St W M T n G D F a w) (j:Nat) (hj:F[j]? = some (ir RK ak RV av es xs)):bW RK ak RV av (dT T D) w es xs:=I.get j hj
theorem xU {T:Nat->Prop} {w:World} (h:bW RK ak RV av T w es xs):es.toList.length=xs.length/\∀ (i:Nat) (e:MapEntry) (x:κ×ν),es.toList[i]? = some e->xs[i]? = some x->∃ c,RK.rel T w c x.1/\e.key=bF ak c :=
 ⟨by simpa using h.1,fun i e x he hx=>(h.2 i e x (by simpa using he) hx).1⟩
theorem sQ {d:Nat} {t ty:TypeId} (RK:aY κ) (ak:Bool) (RV:aY ν) (av:Bool) (I:St W M T n G D F a w) (hn:Nat.blt d n=true)
  (k:∀ b,w.heap.size<=b->∀ a w',Kt No w w'->St W M T n ((d,.map (some b))::G) (.obj b (.map #[] 0)::D) (ir RK ak RV av #[] []::F) a w'->K a w'):t8 P ⟨some d,.makeMap t none,ty,pos,af,g⟩ a w K:=by
 have hr:(execOp a.eval ⟨some d,.makeMap t none,ty,pos,af,g⟩).run P w = .ok (.value (.map (some w.heap.size))) (w.alloc (.map #[] 0)):=by
  simp [execOp,Instr.makeMap]
 refine Aw hr (k w.heap.size (bx _) _ _ (Kt.alloc _ _) ?_);exact ((I.add (Kt.alloc _ _) (.obj w.heap.size (.map #[] 0)) (heap_alloc_new w _) (fun k O=>by simp only [cZ.dom,cw] at O; omega)).fact (ir RK ak RV av #[] []) ⟨rfl,fun i e x he hx=>by simp at he⟩).put hn _
theorem HN {t:TypeId} (ht:J8 P t=some (kt,et)) (hK:Ai P kt RK ak q) {T T2:Nat->Prop} {w w0 w1:World} (hr:w.heap[b]? = some (.map es clock)) (hm:bW RK ak RV av T w0 es xs) {c:bG} {key:κ} (hc:RK.rel T2 w1 c key) {z0:ν} (hz:Pt P et=some z) (hzc:z=bF av zc) (hz0:RV.rel T w0 zc z0) :
  ∃ cv,RV.rel T w0 cv ((cJ q key xs).getD z0)/\(∀ ok,(Instr.lookup t (.map (some b)) (bF ak c) ok).run P w = .ok (if ok then .tuple #[bF av cv,.bool (cJ q key xs).isSome] else bF av cv) w)/\True:=by
 obtain⟨hl,hkeys⟩:=xU hm;have hf:=tC hK hc w hl hkeys;have hch:∀ e,(Instr.checkKey e 10000 kt (bF ak c)).run P w = .ok () w:=fun e=>hK.check e _ _ w _ _ hc;have hzr:=Gw (P:=P) hz w;cases hp:vP q key xs with
 | none =>
  obtain⟨g1,_,_⟩:=ta hp;rw [hp] at hf;refine⟨zc,by rw [g1]; exact hz0,fun ok=>?_,trivial⟩;cases ok <;> simp [Instr.lookup,run_underlying (pa ht),yE hr,hch,hf,BX,hzr,hzc,g1]
 | some i =>
  obtain⟨x,hx,_,g1,_,_⟩:=tb hp;rw [hp] at hf;have hi:i<es.toList.length:=by rw [hl]; exact (bR.1 hx).1
  have he:es.toList[i]? = some es.toList[i]:=bh hi;obtain⟨_,cv,h3,h4⟩:=hm.2 i _ x (by rw [<- Ps]; exact he) hx;refine⟨cv,by rw [g1]; exact h3,fun ok=>?_,trivial⟩;have hat:BX es.toList 0 (some i)=some (i,es.toList[i].val):=by simp only [BX,he,nG,kj]
  rw [hat] at hf;cases ok <;> simp only [Instr.lookup,Sem.run_bind,run_underlying (pa ht),Result.andThen_ok,yE hr,hch,hf,h4,g1,Sem.run_pure,Gt,DG,if_false,if_true]
theorem QH {t:TypeId} (I:St W M T n G D F a w) (ht:J8 P t=some (kt,et)) (hK:Ai P kt RK ak q) (i:Nat) (hi:D[i]? = some (.obj b (.map es clock))) (j:Nat) (hj:F[j]? = some (ir RK ak RV av es xs)) {c:bG} {key:κ} (hc:RK.rel (dT T D) w c key) {z0:ν} (hz:Pt P et=some z) (hzc:z=bF av zc) (hz0:RV.rel (dT T D) w zc z0) :
  ∃ cv,RV.rel (dT T D) w cv ((cJ q key xs).getD z0)/\(∀ {E:Nat->Prop} {d:Option Nat} {X Y:Operand} {ok:Bool} {ty:TypeId} {pos:String} {af:Array Edge} {g:Option (Nat×Bool)},ev G X=some (.map (some b))->ev G Y=some (bF ak c)->¬ E b ->
   Ye P ⟨d,.lookup t X Y ok,ty,pos,af,g⟩ a E w (if ok then .tuple #[bF av cv,.bool (cJ q key xs).isSome] else bF av cv)):=by
 have hr:w.heap[b]? = some (.map es clock):=I.own _ (az hi);have hm:=I.mapOk j hj;obtain⟨cv,h1,h2,_⟩:=HN (P:=P) ht hK hr hm hc hz hzc hz0;refine⟨cv,h1,fun hX hY hE w' O=>?_⟩;have hr':=(O.block b (A7.1 hr).1 hE).trans hr;obtain⟨cv2,h3,h4,_⟩:=HN (P:=P) ht hK hr' hm hc hz hzc hz0;have e1:=I.ev hX;have e2:=I.ev hY;have hrun:∀ ok,(Instr.lookup t (.map (some b)) (bF ak c) ok).run P w' = .ok (if ok then .tuple #[bF av cv,.bool (cJ q key xs).isSome] else bF av cv) w':=fun ok=>by
  obtain⟨hl,hkeys⟩:=xU hm;have a1:=h2 ok;have hf:=tC hK hc w hl hkeys;have hf':=tC hK hc w' hl hkeys;have hch:∀ e (w:World),(Instr.checkKey e 10000 kt (bF ak c)).run P w = .ok () w:=fun e w=>hK.check e _ _ w _ _ hc;have hzr:=Gw (P:=P) hz;revert a1;cases hp:BX es.toList 0 (vP q key xs) with
  | none =>
   rw [hp] at hf hf';cases ok <;> simp [Instr.lookup,run_underlying (pa ht),yE hr,yE hr',hch,hf,hf',hzr]
  | some y =>
   rw [hp] at hf hf';cases ok <;> simp [Instr.lookup,run_underlying (pa ht),yE hr,yE hr',hch,hf,hf']
 simp [execOp,e1,e2,hrun]
theorem mD {t:TypeId} (I:St W M T n G D F a w) (ht:J8 P t=some (kt,et)) (hK:Ai P kt RK ak q) (i:Nat) (hi:D[i]? = some (.obj b (.map es clock))) (j:Nat) (hj:F[j]? = some (ir RK ak RV av es xs)) {c:bG} {key:κ} (hc:RK.rel (dT T D) w c key) {z0 u:ν} (hz:Pt P et=some z) (hzc:z=bF av zc) (hz0:RV.rel (dT T D) w zc z0) (hu:some ((cJ q key xs).getD z0)=some u) :
  ∃ cv,RV.rel (dT T D) w cv u/\(∀ {E:Nat->Prop} {d:Option Nat} {X Y:Operand} {ok:Bool} {ty:TypeId} {pos:String} {af:Array Edge} {g:Option (Nat×Bool)},ev G X=some (.map (some b))->ev G Y=some (bF ak c)->¬ E b ->
   Ye P ⟨d,.lookup t X Y ok,ty,pos,af,g⟩ a E w (if ok then .tuple #[bF av cv,.bool (cJ q key xs).isSome] else bF av cv)):=by
 obtain rfl:=bJ hu;exact QH I ht hK i hi j hj hc hz hzc hz0
theorem sG {w:World} {b:Nat} {o o':Obj} (hr:w.heap[b]? = some o):Kt (fun k=>some b=some k) w { w with heap:=w.heap.setIfInBounds b o' } :=
 ⟨rfl,rfl,rfl,by simp,fun k _ hn=>(x8 (o':=o') hr).2 k fun e=>hn (by rw [e])⟩
theorem vL {t ty:TypeId} {X Y Z:Operand} (I:St W M T n G D F a w) (ht:J8 P t=some (kt,et)) (hK:Ai P kt RK ak q) (i:Nat) (hi:D[i]? = some (.obj b (.map es clock))) (j:Nat) (hj:F[j]? = some (ir RK ak RV av es xs))
  {c cv:bG} {key:κ} {val:ν} (hc:RK.rel (dT T D) w c key) (hv:RV.rel (dT T D) w cv val) (hX:ev G X=some (.map (some b))) (hY:ev G Y=some (bF ak c)) (hZ:ev G Z=some (bF av cv))
  (k:∀ es' ck' w',Kt (fun j=>j=b) w w'->St W M T n G (D.set i (.obj b (.map es' ck'))) (ir RK ak RV av es' (ew q key val xs)::F) a w'->K a w'):t8 P ⟨none,.mapUpdate t X Y Z,ty,pos,af,g⟩ a w K:=by
 have hr:w.heap[b]? = some (.map es clock):=I.own _ (az hi);have hm:=I.mapOk j hj;obtain⟨hl,hkeys⟩:=xU hm;have hf:=tC hK hc w hl hkeys;have hch:=hK.check false _ _ w _ _ hc;have fin:∀ es' ck',(Instr.mapUpdate t (.map (some b)) (bF ak c) (bF av cv)).run P w = .ok () { w with heap:=w.heap.setIfInBounds b (.map es' ck') }->bW RK ak RV av (dT T D) w es' (ew q key val xs)->t8 P ⟨none,.mapUpdate t X Y Z,ty,pos,af,g⟩ a w K:=fun es' ck' hrun hok=>by
  refine HH (w':={ w with heap:=w.heap.setIfInBounds b (.map es' ck') }) (by simp [execOp,I.ev hX,I.ev hY,I.ev hZ,hrun]) (k es' ck' _ ((sG hr).mono fun j hj=>(bJ hj).symm) ?_);exact (I.fact (ir RK ak RV av es' _) hok).turn hi (sG hr) (r':=.obj b (.map es' ck')) (x8 hr).1 fun j hj=>.inl hj
 cases hp:vP q key xs with
 | none =>
  obtain⟨_,g2,_⟩:=ta hp;rw [hp] at hf;refine fin (es.push { key:=bF ak c,val:=bF av cv,born:=clock }) (clock+1) ?_ ⟨by rw [g2]; simp [hm.1],fun z e x he hx=>?_⟩
  ·simp [Instr.mapUpdate,run_underlying (pa ht),yE hr,hch,hf,BX,Gb _ hr]
  ·rw [g2] at hx;by_cases hz:z<xs.length
   ·rw [jm hz] at hx;rw [Rt (by rw [hm.1]; exact hz)] at he;exact hm.2 z e x (by rw [<- he]; exact (xD _)) hx
   ·rw [jn (by omega)] at hx;obtain rfl:z=xs.length:=by
     rcases e9 xs.length z with h | h
     ·rw [vu (by simp; omega)] at hx; cases hx
     ·omega
    simp at hx;subst hx;rw [<- hm.1,Pr] at he;simp only [cw] at he;subst he;exact⟨⟨c,hc,rfl⟩,cv,hv,rfl⟩
 | some p =>
  obtain⟨x0,hx0,hq0,_,g2,_⟩:=tb hp;have hpi:p<es.size:=by rw [hm.1]; exact (bR.1 hx0).1
  have he0:es[p]? = some es[p]:=xD hpi;obtain⟨⟨d0,hd0,hk0⟩,_⟩:=hm.2 p _ x0 he0 hx0;have hbits:=hK.bits _ _ _ _ _ _ _ _ hc hd0 hq0;rw [hp] at hf;refine fin (es.modify p fun e=>{ e with key:=bF ak c,val:=bF av cv }) clock ?_ ⟨by rw [g2]; simp [hm.1],fun z e x he hx=>?_⟩
  ·have hat:BX es.toList 0 (some p)=some (p,es[p].val):=by simp [BX,he0]
   rw [hat] at hf;have hkt:(Instr.keyThatStays (((es[p]?).map (·.key)).getD (bF ak c)) (bF ak c)).run P w = .ok (bF ak c) w:=by
    rw [he0];simp only [nG,yZ,hk0,Instr.keyThatStays,hbits,if_true,Sem.run_pure]
   simp only [Instr.mapUpdate,Sem.run_bind,run_underlying (pa ht),Result.andThen_ok,yE hr,hch,hf,hkt,Gb _ hr]
  ·rw [g2] at hx;by_cases hz:p=z
   ·subst hz;rw [Ag (by rw [<- hm.1]; exact hpi)] at hx;simp only [cw] at hx;subst hx;rw [Iz,if_pos rfl,he0] at he;simp only [nG,cw] at he;subst he;exact⟨⟨c,hc,rfl⟩,cv,hv,rfl⟩
   ·rw [Af hz] at hx;rw [Iz,if_neg hz] at he;exact hm.2 z e x he hx
end
end
section
open Go.RowKit
variable {pos:String} {af:Array Edge} {g:Option (Nat×Bool)}
def MD (D0:List cZ):Nat->Prop:=fun k=>∃ r∈D0,r.dom k
structure vy (T:Nat->Prop) (w:World) (D0:List cZ):Prop where
 own:∀ r∈D0,r.ok w
 free:∀ r∈D0,∀ k,r.dom k->¬ T k
 apart:D0.Pairwise fun r s=>∀ k,r.dom k->¬ s.dom k
structure kl (W w:World) (D0 rs:List cZ):Prop where
 own:∀ r∈rs,r.ok w
 from_:∀ r∈rs,∀ k,r.dom k->MD D0 k∨W.heap.size<=k
 apart:rs.Pairwise fun r s=>∀ k,r.dom k->¬ s.dom k
theorem eu {P:Program} {f:FuncId} {fn:Func} {c:Code} {args:bG} {w:World} {R:Value->World->Prop} {D0:List cZ} (hf:P.funcs[f]? = some fn) (hb:fn.body=some c)
  (T:Nat->Prop) (n:Nat) (hn:fn.ntmps=n) (hT:∀ k,T k->k<w.heap.size) (hl:Nat.ble args.length n=true) (hD:vy T w D0)
  (h:∀ a,St w (MD D0) T n (oz 0 args) D0 [] a w->c.wp P (bodyPost P fn (RL (MD D0) w R)) a w):bm P (MD D0) f args w R:=by
 refine calls_of_wp hf hb (h _ ?_);subst hn;have I:=St.start w (MD D0) T fn.ntmps args hT (fw hl) (oz 0 args) fun t v hv=>by
  obtain⟨h1,h2⟩:=B6 args 0 t v hv;simpa using h2
 exact⟨I.size,I.defers,I.slots,I.base,hD.own,fun r hr k O=>⟨hD.free r hr k O,.inl ⟨r,hr,O⟩⟩,hD.apart,fun f hf=>(by cases hf),hT⟩
section
variable {P:Program} {W:World} {M T E:Nat->Prop} {n:Nat} {G G':List (Nat×Value)} {D D' D0 Dr rs:List cZ} {F F':List co} {a:Act} {w w':World} {K:Act->World->Prop}
theorem St.zd (I:St W (MD D0) T n G rs F a w):kl W w D0 rs:=⟨I.own,fun r hr k O=>(I.free r hr k O).2,I.apart⟩
theorem St.reD (I:St W M T n G D F a w) (is:List Nat) (hn:is.Nodup) (hd:pZ D is D'):St W M T n G D' F a w :=
 I.res (fun r hr=>hd.mem r hr) (hd.pw I.apart hn)
theorem St.dok (I:St W M T n G (D0++Dr) F a w):vy (dT T Dr) w D0:=by
 obtain⟨h1,h2,h3⟩:=lT.1 I.apart;refine⟨fun r hr=>I.own r (mb _ hr),fun r hr k O ht=>?_,h1⟩;rcases ht with ht | ⟨s,hs,hk2⟩
 ·exact (I.free r (mb _ hr) k O).1 ht
 ·exact h3 r hr s hs k O hk2
theorem Cu:∀ k,dT (dT T Dr) D0 k↔dT T (D0++Dr) k:=fun k=>by
 unfold dT;constructor
 ·rintro ((h | ⟨r,hr,O⟩) | ⟨r,hr,O⟩)
  ·exact .inl h
  ·exact .inr ⟨r,ov _ hr,O⟩
  ·exact .inr ⟨r,mb _ hr,O⟩
 ·rintro (h | ⟨r,hr,O⟩)
  ·exact .inl (.inl h)
  ·rcases cM.1 hr with hr | hr
   ·exact .inr ⟨r,hr,O⟩
   ·exact .inl (.inr ⟨r,hr,O⟩)
theorem St.getD (I:St W M T n G (D0++Dr) F a w) (i:Nat) {f:co} (hi:F[i]? = some f):f.p (dT (dT T Dr) D0) w :=
 f.keep (I.get i hi) (aw _ _) fun k O=>.inl ((Cu k).1 O)
theorem St.zt (I:St W M T n G (D0++Dr) F a w):∀ k,dT T Dr k->k<w.heap.size:=fun k O=>I.dlt k (by
 rcases O with h | ⟨r,hr,h⟩
 ·exact .inl h
 ·exact .inr ⟨r,ov _ hr,h⟩)
theorem aC (w:World):Nw (dT (dT T Dr) rs) (dT T (rs++Dr)) w:=fun k O=>.inl ((Cu k).2 O)
theorem St.swapD (I:St W M T n G (D0++Dr) F a w) (O:Kt (MD D0) w w') (hN:kl w w' D0 rs):St W M T n G (rs++Dr) F a w':=by
 obtain⟨h1,h2,h3⟩:=lT.1 I.apart;have m0:∀ k,MD D0 k->¬ T k/\(M k∨W.heap.size<=k)/\dT T (D0++Dr) k/\k<w.heap.size:=fun k ⟨r,hr,O⟩=>by
  have:=I.free r (mb _ hr) k O;exact⟨this.1,this.2,.inr ⟨r,mb _ hr,O⟩,cZ.lt (I.own r (mb _ hr)) k O⟩
 have hr0:∀ s∈Dr,∀ k,s.dom k->¬ MD D0 k/\k<w.heap.size:=fun s hs k O=>⟨fun ⟨r,hr,hk2⟩=>h3 r hr s hs k hk2 O,cZ.lt (I.own s (ov _ hs)) k O⟩;have hsz:=I.base.size;refine⟨I.size,I.defers,I.slots,I.base.step O fun k h=>(m0 k h).2.1,fun r hr=>?_,fun r hr k hkd=>?_,lT.2 ⟨hN.apart,h2,fun r hr s hs k hkr hks=>?_⟩,fun f hf=>f.keep (I.facts f hf) (O.mono fun k h=>(m0 k h).2.2.1) fun k hkd=>?_,fun k h=>uP (I.tlt k h) O.size⟩
 ·rcases cM.1 hr with hr | hr
  ·exact hN.own r hr
  ·exact cZ.keep (I.own r (ov _ hr)) fun k hkd=>O.block k (hr0 r hr k hkd).2 (hr0 r hr k hkd).1
 ·rcases cM.1 hr with hr | hr
  ·rcases hN.from_ r hr k hkd with h | h
   ·exact⟨(m0 k h).1,(m0 k h).2.1⟩
   ·exact⟨fun ht=>by have:=I.tlt k ht; omega,.inr (by omega)⟩
  ·exact I.free r (ov _ hr) k hkd
 ·have h4:=hr0 s hs k hks;rcases hN.from_ r hr k hkr with h | h
  ·exact h4.1 h
  ·omega
 ·rcases hkd with h | ⟨r,hr,hkd⟩
  ·exact .inl (.inl h)
  ·rcases cM.1 hr with hr | hr
   ·rcases hN.from_ r hr k hkd with h | h
    ·exact .inl (m0 k h).2.2.1
    ·exact .inr h
   ·exact .inl (.inr ⟨r,ov _ hr,hkd⟩)
theorem bU {d:Nat} {ty:TypeId} {args:Array Operand} {tys:Array TypeId} {f:Nat} {vs:bG} {R:Value->World->Prop} (I:St W M T n G (D0++Dr) F a w) (hf:aR P f=true) (hargs:evs G args.toList=some vs) (hn:Nat.blt d n=true) (hc:bm P (MD D0) f vs w R)
  (k:∀ v w',R v w'->∀ a,Kt (MD D0) w w'->(∀ rs,kl w w' D0 rs->St W M T n ((d,v)::G) (rs++Dr) F a w')->K a w'):t8 P ⟨some d,.call { callee:=.value (.func f),args:=args,argTypes:=tys },ty,pos,af,g⟩ a w K :=
 xO (cap:=[]) rfl I rfl hf hargs (by rw [jA]; exact hc) fun v w' O hr=>k v w' hr _ O (fun rs h=>(I.swapD O h).put hn v)
end
end
section
open Go.RowKit
variable {d:Option Nat} {t ty:TypeId} {x:Operand}
variable {pos:String} {af:Array Edge} {g:Option (Nat×Bool)}
def mP (s:ByteArray):List Int:=s.toList.map fun c=>(c.toNat:Int)
def gg (l:List Int):ByteArray:=⟨(l.map fun n=>UInt8.ofNat n.toNat).toArray⟩
def AT (k:IntKind) (x n:Int):Int:=k.wrap (x*2 ^ (min n.toNat k.bits))
def cS (k:IntKind) (x n:Int):Int:=x.fdiv (2 ^ (min n.toNat k.bits))
theorem vB (s:ByteArray):(mP s).length=s.size:=by
 unfold mP;rw [iq,ByteArray.toList_eq]; rfl
theorem Jr (s:ByteArray):Lib.strCells s=(mP s).map (Value.int .u8):=by
 unfold Lib.strCells mP;rw [ByteArray.toList_eq,BB]; rfl
theorem Jk (T:Nat->Prop) (w:World):∀ (l:List Int),bf (aY.int .u8) T w (l.map (Value.int .u8)) l
 | l=>⟨by simp [aY.int],fun k x hx=>⟨[.int .u8 x],rfl,fun j u hu=>by
  cases j with
  | zero=>simp only [Fh,cw] at hu; subst hu; simp [aY.int,hx]
  | succ j=>simp at hu⟩⟩
theorem Ef {T:Nat->Prop} {w:World} {cl:bG} {l:List Int} (h:bf (aY.int .u8) T w cl l):cl=l.map (Value.int .u8):=by
 obtain⟨h1,h2⟩:=h;have h1:cl.length=l.length:=by simpa [aY.int] using h1
 apply List.ext_getElem (by simpa using h1);intro i hi hj;have hi':i<l.length:=by omega
 obtain⟨cs,h3,h4⟩:=h2 i _ (bh hi');have h3:cs=[.int .u8 l[i]]:=h3;subst h3;have:=h4 0 _ rfl;have hs:(aY.int .u8).size=1:=rfl;rw [hs,Nat.mul_one,mz,bh hi] at this;simp only [cw] at this;rw [this]; simp
section
variable {P:Program}
theorem x9 (w:World) (t u ty e:TypeId) (i:TypeInfo) (ht:P.underlying t=some (.slice e)) (hu:P.underlying u=some .string) (hi:P.info? e=some i) (hs1:i.size=1)
  (b off sLen sCap:Nat) (s:ByteArray) (hroom:sLen+s.size<=sCap) (hc:∀ j,j<s.size->(w.cell? ⟨b,off+sLen+j,none⟩).isSome=true) (hf:∀ j,j<s.size->w.frozen? ⟨b,off+sLen+j,none⟩=false) :
  (Builtin.append_ #[t,u] ty #[.slice (some ⟨b,off,none⟩) sLen sCap,.string s]).run P w = .ok (.slice (some ⟨b,off,none⟩) (sLen+s.size) sCap) (w.setCells b (off+sLen) (Lib.strCells s)):=by
 have hfc:=Lib.run_firstCells_string (P:=P) w 1 s;have hst:=run_storeCells_cells (P:=P) b (off+sLen) (Lib.strCells s) 0 w (by simpa [Lib.strCells_length] using hc) (by simpa [Lib.strCells_length] using hf) (Lib.strCells_oneCell s);simp only [mz] at hst;simp [Builtin.append_,run_underlying ht,run_underlying hu,sizeOf,typeInfo,hi,hs1,Builtin.lenOf,hroom,hfc,Addr.add_lit,hst]
theorem De (w:World) (t u ty e:TypeId) (E:GE P t e 1 1) (hu:P.underlying u=some .string) (v:Value) (xs:bG) (hown:mN w 0 e 1 v xs) (s:ByteArray) (h63:xs.length+s.size<=140737488355328) :
  ∃ v' w',(Builtin.append_ #[t,u] ty #[v,.string s]).run P w = .ok v' w'/\mN w' 0 e 1 v' (xs++Lib.strCells s)/\w.grownBy w' v.ownBlock/\(v'.ownBlock=v.ownBlock∨v'.ownBlock=some w.heap.size):=by
 obtain⟨ht,⟨i,z,hi,hz,hsize,hby,hzs⟩,hpos⟩:=E;have hsl:=Lib.strCells_length s;have grown:∀ (old n:Nat),xs.length=n->old<n+s.size ->
   mN (w.drew.alloc (.cells (xs.toArray++(Lib.strCells s).toArray++Builtin.zeroCells z.cells (grownCap w (n+s.size) old e-(n+s.size))) e)) 0 e 1
    (.slice (some ⟨w.heap.size,0,none⟩) (n+s.size) (grownCap w (n+s.size) old e)) (xs++Lib.strCells s):=by
  intro old n hx ho;have hge:=grownCap_ge w (n+s.size) old e;have hcm:grownCap w (n+s.size) old e<=maxLen:=grownCap_le_maxLen w (n+s.size) old e (by unfold maxLen; omega);refine .inr ⟨w.heap.size,0,n+s.size,_,_,rfl,by rw [br,hx,hsl]; omega,cT _,.of (heap_alloc_new w.drew _),hge,hcm,?_,?_⟩
  ·simp only [Kx,A2,size_zeroCells,hzs,hx,hsl];omega
  ·intro j u hu;rw [kj,Pp (by
    have:=(bR.1 hu).1;simpa using this)]
   simpa using hu
 rcases hown with⟨rfl,rfl⟩|⟨g,off,n,cap,cs,rfl,a1,hb,hg,hnc,hc,hsz,hcs⟩
 ·by_cases h0:s.size=0
  ·have hn:Lib.strCells s=[]:=DJ (by rw [hsl]; exact h0);refine⟨.slice none 0 0,w,?_,.inl ⟨rfl,by rw [hn]; rfl⟩,World.grownBy.refl w _,.inl rfl⟩;have hfc:=Lib.run_firstCells_string (P:=P) w 1 s;rw [h0] at hfc;simp [Builtin.append_,run_underlying ht,run_underlying hu,sizeOf,typeInfo,hi,hsize,Builtin.lenOf,h0,hfc,storeCells]
  ·have hr:=run_append_nil_string (P:=P) w t u ty e i z ht hu hi hz s (by omega) (by simp at h63; omega) (by simp at h63; rw [hby]; omega);have hgr:=grown 0 0 rfl (by omega);have he:s.data.map (fun b=>Value.int .u8 b.toNat)=(Lib.strCells s).toArray:=by unfold Lib.strCells; apply Array.ext'; simp
   simp only [kj,Array.empty_append] at hgr;rw [he] at hr;refine⟨_,_,hr,?_,⟨rfl,rfl,rfl,by simp,fun k O _=>Below.heap_alloc w.drew _ k O⟩,.inr rfl⟩;simpa using hgr
 ·have hn:n=xs.length:=by omega
  by_cases hroom:n+s.size<=cap
  ·have hr:=x9 (P:=P) w t u ty e i ht hu hi hsize g off n cap s hroom
    (fun j hj=>by rw [hg.cell,xD (by omega)]; rfl)
    (fun j hj=>hg.free (by omega))
   obtain⟨fz,hg0,hfz⟩:=id hg;obtain⟨cs',c1,c2,c3,c4⟩:=eB g e fz (Lib.strCells s) (off+n) w cs hg0;refine⟨_,_,hr,.inr ⟨g,off,n+s.size,cap,cs',rfl,by rw [br,hsl]; omega,hb,⟨fz,c1,by rw [c2]; exact hfz⟩,hroom,hc,by rw [c2]; exact hsz,fun j u hu=>?_⟩,lm w g _ _,.inl rfl⟩;by_cases hj:j<xs.length
   ·rw [jm hj] at hu;rw [c3 _ (by omega)];exact hcs j u hu
   ·rw [jn (by omega)] at hu;have:=c4 (by rw [hsl]; omega) (j-xs.length) u hu;rwa [show off+n+(j-xs.length)=off+j by omega] at this
  ·have hr:=Lib.run_append_grow_string (P:=P) w t u ty e i z ht hu hi hz ⟨g,off,none⟩ n cap xs (by rw [hsize]; omega) (fun j u hu=>by rw [Addr.add_lit,hg.cell]; exact hcs j u hu) s (by omega) (by omega)
    (growslice_fits (by omega) (by rw [hby]; omega))
   exact⟨_,_,hr,grown cap n hn.symm (by omega),⟨rfl,rfl,rfl,by simp,fun k O _=>Below.heap_alloc w.drew _ k O⟩,.inr rfl⟩
end
section
variable {P:Program} {W:World} {M T E:Nat->Prop} {n:Nat} {G G':List (Nat×Value)} {D D':List cZ} {F F':List co} {a:Act} {w w':World} {K:Act->World->Prop}
theorem NQ {t':TypeId} {y:Operand} {k k':IntKind} {p q:Int} (I:St W M T n G D F a w) (hx:ev G x=some (.int k p)) (hy:ev G y=some (.int k' q)) (hq:decide (0<=q)=true):Ye P ⟨d,.binOp .shl t x y t',ty,pos,af,g⟩ a E w (.int k (AT k p q)) :=
 Ye.of fun w=>by
  have h1:=I.ev hx;have h2:=I.ev hy;have h3:¬ q<0:=by have:=of_decide_eq_true hq; omega
  simp [execOp,h1,h2,eqGuard,binOp,Op.shift,h3,AT]
theorem xz {t':TypeId} {y:Operand} {k k':IntKind} {p q:Int} (I:St W M T n G D F a w) (hx:ev G x=some (.int k p)) (hy:ev G y=some (.int k' q)) (hq:decide (0<=q)=true):Ye P ⟨d,.binOp .shr t x y t',ty,pos,af,g⟩ a E w (.int k (cS k p q)) :=
 Ye.of fun w=>by
  have h1:=I.ev hx;have h2:=I.ev hy;have h3:¬ q<0:=by have:=of_decide_eq_true hq; omega
  simp [execOp,h1,h2,eqGuard,binOp,Op.shift,h3,cS]
theorem CG:∀ (ns:List Int) (r:ByteArray),ns.foldl (fun r n=>r.push (UInt8.ofNat n.toNat)) r=⟨r.data++(ns.map fun n=>UInt8.ofNat n.toNat).toArray⟩
 | [],r=>by simp
 | n::ns,r=>by
  rw [IA,CG ns];apply Fc;simp [ByteArray.push]
theorem Ob (w:World) (A:Option Addr) (m c:Nat) (xs:List Int) (hm:m=xs.length) (hat:At w A (xs.map (Value.int .u8))):(Conv.bytesToString (.slice A m c)).run P w = .ok (.string (gg xs)) w:=by
 rcases hat with h | ⟨b,off,rfl,h⟩
 ·have:xs=[]:=by simpa using h
  subst this;have hm:m=0:=hm;subst hm;cases A <;> simp [Conv.bytesToString,loadCells,loadCellsFrom,gg,Sem.run_pure] <;> rfl
 ·have hl:=run_loadCells_list (P:=P) w ⟨b,off,none⟩ (xs.map (Value.int .u8)) (fun j u hu=>by rw [Addr.add_lit]; exact h j u hu);rw [iq,<- hm] at hl;rw [run_bytesToString w ⟨b,off,none⟩ m c xs hl,CG];simp [gg]
theorem Gj {s e e':TypeId} {v:Value} {cl:bG} {xs:List Int} (I:St W M T n G D F a w) (hx:ev G x=some v) (hs:P.underlying s=some (.slice e)) (he:P.underlying e=some (.int .u8)) (ht:P.underlying t=some .string) (i:Nat) (hi:D[i]? = some (.own v e' (aY.int .u8).size cl)) (j:Nat) (hj:F[j]? = some (au (aY.int .u8) cl xs)) (hE:∀ k,v.ownBlock=some k->¬ E k):Ye P ⟨d,.convert s t x,ty,pos,af,g⟩ a E w (.string (gg xs)):=fun w' O=>by
 obtain⟨hown,hsz⟩:=I.own _ (az hi);have hrow:bf (aY.int .u8) (dT T D) w cl xs:=I.get j hj;have hcl:=Ef hrow;have h1:∃ A m c,v = .slice A m c/\m=xs.length/\At w' A (xs.map (Value.int .u8)):=by
  rcases hown with⟨rfl,h0⟩|⟨g,off,m,cap,cs,rfl,a1,hb,hg,hnc,hc,hsz2,hcs⟩
  ·have hz:xs=[]:=by rw [h0] at hcl; simpa using hcl.symm
   exact⟨none,0,0,rfl,by rw [hz]; rfl,.inl (by rw [hz]; rfl)⟩
  ·have hg':=hg.eqb (O.block g hg.lt (hE g rfl));refine⟨_,_,_,rfl,?_,.inr ⟨g,off,rfl,fun j u hu=>?_⟩⟩
   ·have:(aY.int .u8).size=1:=rfl;have:=congrArg List.length hcl;simp at this; simp only [aY.int] at a1; omega
   ·rw [hg'.cell];exact hcs j u (by rw [hcl]; exact hu)
 obtain⟨A,m,c,rfl,hm,hat⟩:=h1;have:=Ob (P:=P) w' A m c xs hm hat;simp [execOp,I.ev hx,convert,run_underlying hs,run_underlying he,run_underlying ht,this]
end
end
section
open Go.Lib
def FG (c:UInt8):Bool:=decide (48<=c.toNat)&&decide (c.toNat<=57)
def cU:List UInt8->Nat->Int
 | [],n=>n
 | c::r,n=>if FG c then cU r (10*n+(c.toNat-48)) else -1
def tz (l:List UInt8):Int:=if l=[]∨9<l.length∨(l.getD 0 0=48/\l≠[48]) then -1 else cU l 0
theorem yC:∀ (l:List UInt8) (n:Nat),cU l n = -1∨(n:Int)<=cU l n
 | [],n=>.inr (by simp [cU])
 | c::r,n=>by
  unfold cU;split
  ·rcases yC r (10*n+(c.toNat-48)) with h | h
   ·exact .inl h
   ·exact .inr (by omega)
  ·exact .inl rfl
theorem Cv:∀ (l:List UInt8) (n:Nat),cU l n<(n+1)*10 ^ l.length
 | [],n=>by simp [cU]; omega
 | c::r,n=>by
  unfold cU;split
  ·rename_i h;have hc:c.toNat<=57:=by simp [FG] at h; omega
   have:=Cv r (10*n+(c.toNat-48));have h2:((10*n+(c.toNat-48):Nat):Int)+1<=(n+1)*10:=by omega
   have h3:(((10*n+(c.toNat-48):Nat):Int)+1)*10 ^ r.length<=((n+1)*10)*10 ^ r.length:=Int.mul_le_mul_of_nonneg_right h2 (by exact Int.le_of_lt (Int.pow_pos (by omega)));have h4:(((n:Int)+1)*10)*10 ^ r.length=((n:Int)+1)*10 ^ (c::r).length:=by rw [dx,Int.pow_succ,Int.mul_assoc,Int.mul_comm 10]
   omega
  ·have:(0:Int)<((n:Int)+1)*10 ^ (c::r).length:=Int.mul_pos (by omega) (Int.pow_pos (by omega));omega
theorem tx:∀ (l:List UInt8) (n m:Nat) (c:UInt8),cU l n=m->cU (l++[c]) n=if FG c then ((10*m+(c.toNat-48):Nat):Int) else -1
 | [],n,m,c,h=>by
  simp only [cU] at h;have:n=m:=by omega
  subst this;simp [cU]
 | d::r,n,m,c,h=>by
  unfold cU at h;split at h
  ·rename_i hd;show cU (d::(r++[c])) n=_;rw [cU,if_pos hd];exact tx r _ m c h
  ·omega
theorem Ao {k:Nat} (h:k<10):(UInt8.ofNat (48+k)).toNat=48+k:=by
 have:(UInt8.ofNat (48+k)).toNat=(48+k) % 256:=rfl;omega
theorem FH {k:Nat} (h:k<10):FG (UInt8.ofNat (48+k))=true:=by
 unfold FG; rw [Ao h]; simp; omega
theorem Bf (n:Nat):cU (decDigits n) 0=n:=by
 induction n using Nat.strongRecOn with
 | _ n ih =>
  rw [decDigits];split
  ·rename_i h;simp only [cU,FH h,if_true,Ao h];omega
  ·rename_i h;rw [tx _ 0 (n / 10) _ (ih (n / 10) (by omega)),FH (by omega),if_pos rfl,Ao (by omega)];omega
theorem FF (n:Nat):decDigits n≠[]:=by
 rw [decDigits]; split <;> simp
theorem Mi (n:Nat):(decDigits n).getD 0 0=48->decDigits n=[48]:=by
 induction n using Nat.strongRecOn with
 | _ n ih =>
  rw [decDigits];split
  ·rename_i h;intro h2;simp only [List.getD_cons_zero] at h2;rw [h2]
  ·rename_i h;intro h2;have hne:=FF (n / 10);have h3:(decDigits (n / 10)).getD 0 0=48:=by
    cases hd:decDigits (n / 10) with
    | nil=>exact absurd hd hne
    | cons a r=>rw [hd] at h2; simpa using h2
   have h4:=ih (n / 10) (by omega) h3;have h5:=Bf (n / 10);rw [h4] at h5;have:cU [48] 0=0:=rfl;omega
theorem zE (n:Nat):∀ k,n<10 ^ (k+1)->(decDigits n).length<=k+1:=by
 induction n using Nat.strongRecOn with
 | _ n ih =>
  intro k O;rw [decDigits];split
  ·simp
  ·rename_i h;cases k with
   | zero=>simp at O; omega
   | succ k =>
    have:=ih (n / 10) (by omega) k (by rw [Nat.div_lt_iff_lt_mul (by omega)]; rwa [A5] at O);simp; omega
theorem Cw {n:Nat} (h:n<1000000000):tz (decDigits n)=n:=by
 unfold tz;rw [if_neg,Bf];rintro (h1 | h1 | ⟨h1,h2⟩)
 ·exact FF n h1
 ·have:=zE n 8 (by simpa using h); omega
 ·exact h2 (Mi n h1)
theorem Jn {α:Type} (l:List α):l=[]∨∃ r c,l=r++[c]:=by
 rcases List.eq_nil_or_concat l with h | ⟨r,c,h⟩
 ·exact .inl h
 ·exact .inr ⟨r,c,by simpa using h⟩
theorem wq:∀ (l:List UInt8) (n:Nat) (c:UInt8),cU l n = -1->cU (l++[c]) n = -1
 | [],n,c,h=>by simp [cU] at h
 | d::r,n,c,h=>by
  show cU (d::(r++[c])) n=_;unfold cU at h ⊢;split
  ·rename_i hd;rw [if_pos hd] at h;exact wq r _ c h
  ·rfl
theorem Hh:∀ (k:Nat) (l:List UInt8) (n:Nat),l.length<=k->l≠[]->(l.getD 0 0=48->l=[48])->cU l 0=n->decDigits n=l:=by
 intro k
 induction k with
 | zero=>intro l n O h1 _ _; exact absurd (DJ (by omega)) h1
 | succ k ih =>
  intro l n O h1 h2 h3;rcases Jn l with rfl | ⟨r,c,rfl⟩
  ·exact absurd rfl h1
  ·cases hr:r with
   | nil =>
    subst hr;simp only [ow,cU] at h3 ⊢;split at h3
    ·rename_i hd;have hc:48<=c.toNat/\c.toNat<=57:=by simpa [FG] using hd
     have hn:n=c.toNat-48:=by omega
     rw [decDigits,dif_pos (by omega),hn,show 48+(c.toNat-48)=c.toNat by omega,UInt8.ofNat_toNat]
    ·omega
   | cons a r' =>
    rw [<- hr];rcases yC r 0 with h | h
    ·rw [wq r 0 c h] at h3; omega
    ·obtain⟨m,hm⟩:∃ m:Nat,cU r 0=m:=⟨(cU r 0).toNat,by omega⟩;rw [tx r 0 m c hm] at h3;split at h3
     ·rename_i hd;have hc:48<=c.toNat/\c.toNat<=57:=by simpa [FG] using hd
      have ha:r.getD 0 0≠48:=by
       intro e;have:=h2 (by rw [hr] at e ⊢; simpa using e);rw [hr] at this; simp at this
      have hrec:=ih r m (by simp at O; omega) (by rw [hr]; simp) (fun e=>absurd e ha) hm;have hm0:1<=m:=by
       rcases A3 m with e | e
       ·subst e;rw [decDigits,dif_pos (by omega)] at hrec;rw [<- hrec] at ha;exact absurd rfl ha
       ·exact e
      rw [decDigits,dif_neg (by omega),show n / 10=m by omega,hrec,show n % 10=c.toNat-48 by omega,show 48+(c.toNat-48)=c.toNat by omega,UInt8.ofNat_toNat]
     ·omega
theorem Mk {l:List UInt8} {n:Nat} (h:tz l=n):decDigits n=l/\n<1000000000:=by
 unfold tz at h;split at h
 ·omega
 ·rename_i hc;have h1:l≠[]:=fun e=>hc (.inl e);have h2:l.length<=9:=by
   rcases e9 9 l.length with e | e
   ·exact absurd (.inr (.inl e)) hc
   ·exact e
  have h3:l.getD 0 0=48->l=[48]:=fun e=>DH fun e2=>hc (.inr (.inr ⟨e,e2⟩));refine⟨Hh 9 l n h2 h1 h3 h,?_⟩;have:=Cv l 0;have hp:(10:Nat) ^ l.length<=10 ^ 9:=DC (by omega) h2;have hq:((10:Int) ^ l.length)=((10 ^ l.length:Nat):Int):=by simp
  rw [h,hq] at this;simp only [Int.natCast_zero,Int.zero_add,Int.one_mul] at this;have:(10:Nat) ^ 9=1000000000:=rfl;omega
theorem JT (l:List UInt8) : -1<=tz l:=by
 unfold tz;split
 ·omega
 ·rcases yC l 0 with h | h <;> omega
theorem EP:∀ (l:List UInt8) (a m:Nat) (c:UInt8),parseUint10 a l = .ok m->m<1000000000000->FG c=true->parseUint10 a (l++[c]) = .ok (10*m+(c.toNat-48))
 | [],a,m,c,h,hm,hc=>by
  simp only [parseUint10] at h;injection h with h;subst h;have hc':48<=c.toNat/\c.toNat<=57:=by simpa [FG] using hc
  simp only [ow,parseUint10];rw [if_pos hc',if_neg (by omega),if_neg (by omega)];congr 1; omega
 | d::r,a,m,c,h,hm,hc=>by
  show parseUint10 a (d::(r++[c]))=_;unfold parseUint10 at h ⊢;split at h
  ·rename_i hd;rw [if_pos hd];split at h
   ·cases h
   ·rename_i h2;rw [if_neg h2];split at h
    ·cases h
    ·rename_i h3;rw [if_neg h3];exact EP r _ m c h hm hc
  ·cases h
theorem Lb (n:Nat) (h:n<1000000000000):parseUint10 0 (decDigits n) = .ok n:=by
 induction n using Nat.strongRecOn with
 | _ n ih =>
  rw [decDigits];split
  ·rename_i h;simp only [parseUint10,Ao h];rw [if_pos (by omega),if_neg (by omega),if_neg (by omega)];congr 1; omega
  ·rename_i h;rw [EP _ 0 (n / 10) _ (ih (n / 10) (by omega) (by omega)) (by omega) (FH (by omega)),Ao (by omega)];congr 1; omega
theorem Ou (n:Nat):48<=((decDigits n).getD 0 0).toNat:=by
 induction n using Nat.strongRecOn with
 | _ n ih =>
  rw [decDigits];split
  ·rename_i h;simp only [List.getD_cons_zero];rw [Ao h]; omega
  ·rename_i h;have hne:=FF (n / 10);have:=ih (n / 10) (by omega);cases hd:decDigits (n / 10) with
   | nil=>exact absurd hd hne
   | cons a r=>rw [hd] at this; simpa using this
theorem Ch {n:Nat} (h:n<1000000000):atoiAll (decDigits n) = .ok (n:Int):=by
 have h1:=Lb n (by omega);have h2:=Ou n;have h3:=FF n;cases hd:decDigits n with
 | nil=>exact absurd hd h3
 | cons c r =>
  rw [hd] at h1 h2;simp only [List.getD_cons_zero] at h2;have h45:¬ (c.toNat=43∨c.toNat=45):=by omega
  have h46:¬ c.toNat=45:=by omega
  simp only [atoiAll,if_neg h45,parseMag,if_neg (List.cons_ne_nil c r),h1];rw [if_neg (by omega),if_neg (by omega),if_neg h46]
def CU (M:Nat) (l:List UInt8):Int:=if tz l<=M then tz l else -1
theorem K9 (M:Nat) (B:M<1000000000) (l:List UInt8):CU M l=match atoiAll l with
  | .ok v=>if v<0∨(M:Int)<v then -1 else if itoa v=l then v else -1
  | _=>-1:=by
 have key:∀ n:Nat,tz l=n->n<=M->CU M l=n/\atoiAll l = .ok (n:Int)/\itoa (n:Int)=l:=fun n h1 h2=>by
  obtain⟨h3,h4⟩:=Mk h1;refine⟨by unfold CU; rw [h1,if_pos (by omega)],by rw [<- h3]; exact Ch h4,by unfold itoa; rw [if_neg (by omega)]; simpa using h3⟩
 have hge:=JT l;by_cases hc:0<=tz l/\tz l<=M
 ·obtain⟨n,hn⟩:∃ n:Nat,tz l=n:=⟨(tz l).toNat,by omega⟩;obtain⟨k1,k2,k3⟩:=key n hn (by omega);rw [k1,k2];simp only;rw [if_neg (by omega),if_pos k3]
 ·have hl:CU M l = -1:=by
   unfold CU;split
   ·omega
   ·rfl
  rw [hl];cases ha:atoiAll l
  ·rename_i v;simp only;split
   ·rfl
   ·rename_i hv;split
    ·rename_i hi;exfalso;have hv0:0<=v/\v<=M:=by omega
     obtain⟨n,rfl⟩:∃ n:Nat,v=n:=⟨v.toNat,by omega⟩;unfold itoa at hi;rw [if_neg (by omega)] at hi;simp only [gP] at hi;have:=Cw (n:=n) (by omega);rw [hi] at this;omega
    ·rfl
  ·rfl
  ·rfl
end
end Go.Proofs.YtllbbcgnnoonoaaGreatDoor
section
namespace Go.Proofs
open Go.Shelf
def Tryz.lays106_ren:Go.Shelf.Ren:=⟨fun | 106=>51 | 213=>105 | 265=>147 | n=>n,fun | 9=>9 | 3=>3 | n=>n,fun | n=>n⟩
theorem Tryz.lays106:Go.Proofs.Lays.n106 Tryz.prog Tryz.lays106_ren:={
 mixed:=by kernel_rfl
 f106:=Tryz.func51.trans (congrArg some (by kernel_rfl))
 f213:=Tryz.func105.trans (congrArg some (by kernel_rfl))
 f265:=Tryz.func147.trans (congrArg some (by kernel_rfl))
 t3:=Tryz.underlying3
 a3:=Tryz.isAgg3
 z3:=Tryz.sizeOf3
 v3:=Tryz.zeroValue3
 t9:=Tryz.underlying9
 a9:=Tryz.isAgg9
 z9:=Tryz.sizeOf9
 v9:=Tryz.zeroValue9 }
open Go.RowKit in
theorem Tryz.strings_Compare (a b:ByteArray) (w:World) :
  Calls Tryz.prog 51 #[.string a,.string b] w fun e w'=>e = .returned (.int .i64 (Lib.compareBytes a.data.toList b.data.toList))/\w'=w:=Any.strings_Compare Tryz.lays106 a b w
def Tryz.lays122_ren:Go.Shelf.Ren:=⟨fun | 122=>104 | 215=>146 | n=>n,fun | 3=>3 | 4=>4 | n=>n,fun | n=>n⟩
theorem Tryz.lays122:Go.Proofs.Lays.n122 Tryz.prog Tryz.lays122_ren:={
 mixed:=by kernel_rfl
 f122:=Tryz.func104.trans (congrArg some (by kernel_rfl))
 f215:=Tryz.func146.trans (congrArg some (by kernel_rfl))
 t3:=Tryz.underlying3
 a3:=Tryz.isAgg3
 z3:=Tryz.sizeOf3
 v3:=Tryz.zeroValue3
 t4:=Tryz.underlying4
 a4:=Tryz.isAgg4
 z4:=Tryz.sizeOf4
 v4:=Tryz.zeroValue4 }
open Go.RowKit in
theorem Tryz.cmp_Compare_int (x y:Int) (w:World) :
  Calls Tryz.prog 104 #[.int .i64 x,.int .i64 y] w fun e w'=>e = .returned (.int .i64 (Lib.compareInt x y))/\w'=w:=Any.cmp_Compare_int Tryz.lays122 x y w
def Tryz.laysM171_ren:Go.Shelf.Ren:=⟨fun | 171=>33 | 243=>85 | 246=>140 | 283=>182 | 284=>183 | 285=>184 | 286=>185 | 129=>205 | 317=>217 | 318=>218 | 319=>219 | 320=>220 | 337=>239 | 338=>240 | n=>n,fun | 3=>3 | 9=>9 | 2=>2 | 4=>4 | 171=>234 | 0=>0 | 53=>45 | 37=>156 | 5=>5 | 173=>237 | 212=>261 | 51=>252 | 20=>20 | 213=>262 | 46=>150 | 232=>325 | 233=>326 | n=>n,fun | 17=>1 | 18=>4 | 19=>5 | n=>n⟩
theorem Tryz.laysM171:Go.Proofs.LaysM.n171 Tryz.prog Tryz.laysM171_ren:={
 mixed:=by kernel_rfl
 f129:=Tryz.func205.trans (congrArg some (by kernel_rfl))
 f171:=Tryz.func33.trans (congrArg some (by kernel_rfl))
 f243:=Tryz.func85.trans (congrArg some (by kernel_rfl))
 f246:=Tryz.func140.trans (congrArg some (by kernel_rfl))
 f283:=Tryz.func182.trans (congrArg some (by kernel_rfl))
 f284:=Tryz.func183.trans (congrArg some (by kernel_rfl))
 f285:=Tryz.func184.trans (congrArg some (by kernel_rfl))
 f286:=Tryz.func185.trans (congrArg some (by kernel_rfl))
 f317:=Tryz.func217.trans (congrArg some (by kernel_rfl))
 f318:=Tryz.func218.trans (congrArg some (by kernel_rfl))
 f319:=Tryz.func219.trans (congrArg some (by kernel_rfl))
 f320:=Tryz.func220.trans (congrArg some (by kernel_rfl))
 f337:=Tryz.func239.trans (congrArg some (by kernel_rfl))
 f338:=Tryz.func240.trans (congrArg some (by kernel_rfl))
 t0:=Tryz.underlying0
 a0:=Tryz.isAgg0
 z0:=Tryz.sizeOf0
 v0:=Tryz.zeroValue0
 t2:=Tryz.underlying2
 a2:=Tryz.isAgg2
 z2:=Tryz.sizeOf2
 v2:=Tryz.zeroValue2
 t3:=Tryz.underlying3
 a3:=Tryz.isAgg3
 z3:=Tryz.sizeOf3
 v3:=Tryz.zeroValue3
 t4:=Tryz.underlying4
 a4:=Tryz.isAgg4
 z4:=Tryz.sizeOf4
 v4:=Tryz.zeroValue4
 t5:=Tryz.underlying5
 a5:=Tryz.isAgg5
 z5:=Tryz.sizeOf5
 v5:=Tryz.zeroValue5
 t9:=Tryz.underlying9
 a9:=Tryz.isAgg9
 z9:=Tryz.sizeOf9
 v9:=Tryz.zeroValue9
 t20:=Tryz.underlying20
 a20:=Tryz.isAgg20
 z20:=Tryz.sizeOf20
 v20:=Tryz.zeroValue20
 t37:=Tryz.underlying156
 a37:=Tryz.isAgg156
 z37:=Tryz.sizeOf156
 v37:=Tryz.zeroValue156
 t46:=Tryz.underlying150
 a46:=Tryz.isAgg150
 z46:=Tryz.sizeOf150
 v46:=Tryz.zeroValue150
 t51:=Tryz.underlying252
 a51:=Tryz.isAgg252
 z51:=Tryz.sizeOf252
 v51:=Tryz.zeroValue252
 t53:=Tryz.underlying45
 a53:=Tryz.isAgg45
 z53:=Tryz.sizeOf45
 v53:=Tryz.zeroValue45
 t171:=Tryz.underlying234
 a171:=Tryz.isAgg234
 z171:=Tryz.sizeOf234
 v171:=Tryz.zeroValue234
 t173:=Tryz.underlying237
 a173:=Tryz.isAgg237
 z173:=Tryz.sizeOf237
 v173:=Tryz.zeroValue237
 t212:=Tryz.underlying261
 a212:=Tryz.isAgg261
 z212:=Tryz.sizeOf261
 v212:=Tryz.zeroValue261
 t213:=Tryz.underlying262
 a213:=Tryz.isAgg262
 z213:=Tryz.sizeOf262
 t232:=Tryz.underlying325
 a232:=Tryz.isAgg325
 z232:=Tryz.sizeOf325
 v232:=Tryz.zeroValue325
 t233:=Tryz.underlying326
 a233:=Tryz.isAgg326
 z233:=Tryz.sizeOf326
 v233:=Tryz.zeroValue326
 g17:=by kernel_rfl
 g18:=by kernel_rfl
 g19:=by kernel_rfl
 i0:=by kernel_rfl
 i2:=by kernel_rfl
 i3:=by kernel_rfl
 i4:=by kernel_rfl
 i5:=by kernel_rfl
 i9:=by kernel_rfl
 i20:=by kernel_rfl
 i37:=by kernel_rfl
 i46:=by kernel_rfl
 i51:=by kernel_rfl
 i53:=by kernel_rfl
 i171:=by kernel_rfl
 i173:=by kernel_rfl
 i212:=by kernel_rfl
 i232:=by kernel_rfl
 i233:=by kernel_rfl
 m17:=by kernel_rfl
 m18:=by kernel_rfl
 m19:=by kernel_rfl }
open Go.RowKit Go.Sort Go.Lib in
theorem Tryz.strconv_Itoa (n : Int) (h0 : -9223372036854775808 <= n) (h1 : n <= 9223372036854775807) (w : World) (htab : Lib.TabIs Tryz.prog w "internal/strconv.uint64pow10" .u64 Lib.pow10Tab) :
  Calls Tryz.prog 33 #[.int .i64 n] w fun e w'=>e = .returned (.string ⟨(Lib.itoa n).toArray⟩)/\∃ k os,w'=grow (w.drewN k) os:=Any.strconv_Itoa Tryz.laysM171 n h0 h1 w htab
def Tryz.laysC172_ren:Go.Shelf.Ren:=⟨fun | 172=>159 | 244=>194 | 245=>195 | 247=>224 | 279=>225 | 280=>226 | 281=>227 | 282=>228 | 287=>241 | 316=>242 | 171=>33 | 205=>243 | 321=>275 | 322=>276 | 243=>85 | 246=>140 | 283=>182 | 284=>183 | 285=>184 | 286=>185 | 129=>205 | 317=>217 | 318=>218 | 319=>219 | 320=>220 | 337=>239 | 338=>240 | n=>n,fun | 9=>9 | 3=>3 | 75=>207 | 76=>208 | 4=>4 | 5=>5 | 167=>264 | 37=>156 | 0=>0 | 85=>265 | 2=>2 | 168=>267 | 53=>45 | 175=>281 | 46=>150 | 210=>284 | 127=>329 | 145=>332 | 143=>330 | 21=>21 | 171=>234 | 173=>237 | 212=>261 | 51=>252 | 20=>20 | 213=>262 | 232=>325 | 233=>326 | 80=>166 | n=>n,fun | 15=>2 | 16=>3 | 17=>1 | 18=>4 | 19=>5 | n=>n⟩
theorem Tryz.laysC172:Go.Proofs.LaysC.n172 Tryz.prog Tryz.laysC172_ren:={
 mixed:=by kernel_rfl
 f129:=Tryz.func205.trans (congrArg some (by kernel_rfl))
 f171:=Tryz.func33.trans (congrArg some (by kernel_rfl))
 f172:=Tryz.func159.trans (congrArg some (by kernel_rfl))
 f205:=Tryz.func243.trans (congrArg some (by kernel_rfl))
 f243:=Tryz.func85.trans (congrArg some (by kernel_rfl))
 f244:=Tryz.func194.trans (congrArg some (by kernel_rfl))
 f245:=Tryz.func195.trans (congrArg some (by kernel_rfl))
 f246:=Tryz.func140.trans (congrArg some (by kernel_rfl))
 f247:=Tryz.func224.trans (congrArg some (by kernel_rfl))
 f279:=Tryz.func225.trans (congrArg some (by kernel_rfl))
 f280:=Tryz.func226.trans (congrArg some (by kernel_rfl))
 f281:=Tryz.func227.trans (congrArg some (by kernel_rfl))
 f282:=Tryz.func228.trans (congrArg some (by kernel_rfl))
 f283:=Tryz.func182.trans (congrArg some (by kernel_rfl))
 f284:=Tryz.func183.trans (congrArg some (by kernel_rfl))
 f285:=Tryz.func184.trans (congrArg some (by kernel_rfl))
 f286:=Tryz.func185.trans (congrArg some (by kernel_rfl))
 f287:=Tryz.func241.trans (congrArg some (by kernel_rfl))
 f316:=Tryz.func242.trans (congrArg some (by kernel_rfl))
 f317:=Tryz.func217.trans (congrArg some (by kernel_rfl))
 f318:=Tryz.func218.trans (congrArg some (by kernel_rfl))
 f319:=Tryz.func219.trans (congrArg some (by kernel_rfl))
 f320:=Tryz.func220.trans (congrArg some (by kernel_rfl))
 f321:=Tryz.func275.trans (congrArg some (by kernel_rfl))
 f322:=Tryz.func276.trans (congrArg some (by kernel_rfl))
 f337:=Tryz.func239.trans (congrArg some (by kernel_rfl))
 f338:=Tryz.func240.trans (congrArg some (by kernel_rfl))
 t0:=Tryz.underlying0
 a0:=Tryz.isAgg0
 z0:=Tryz.sizeOf0
 v0:=Tryz.zeroValue0
 t2:=Tryz.underlying2
 a2:=Tryz.isAgg2
 z2:=Tryz.sizeOf2
 v2:=Tryz.zeroValue2
 t3:=Tryz.underlying3
 a3:=Tryz.isAgg3
 z3:=Tryz.sizeOf3
 v3:=Tryz.zeroValue3
 t4:=Tryz.underlying4
 a4:=Tryz.isAgg4
 z4:=Tryz.sizeOf4
 v4:=Tryz.zeroValue4
 t5:=Tryz.underlying5
 a5:=Tryz.isAgg5
 z5:=Tryz.sizeOf5
 v5:=Tryz.zeroValue5
 t9:=Tryz.underlying9
 a9:=Tryz.isAgg9
 z9:=Tryz.sizeOf9
 v9:=Tryz.zeroValue9
 t20:=Tryz.underlying20
 a20:=Tryz.isAgg20
 z20:=Tryz.sizeOf20
 v20:=Tryz.zeroValue20
 t21:=Tryz.underlying21
 a21:=Tryz.isAgg21
 z21:=Tryz.sizeOf21
 v21:=Tryz.zeroValue21
 t37:=Tryz.underlying156
 a37:=Tryz.isAgg156
 z37:=Tryz.sizeOf156
 v37:=Tryz.zeroValue156
 t46:=Tryz.underlying150
 a46:=Tryz.isAgg150
 z46:=Tryz.sizeOf150
 v46:=Tryz.zeroValue150
 t51:=Tryz.underlying252
 a51:=Tryz.isAgg252
 z51:=Tryz.sizeOf252
 v51:=Tryz.zeroValue252
 t53:=Tryz.underlying45
 a53:=Tryz.isAgg45
 z53:=Tryz.sizeOf45
 v53:=Tryz.zeroValue45
 t75:=Tryz.underlying207
 a75:=Tryz.isAgg207
 z75:=Tryz.sizeOf207
 v75:=Tryz.zeroValue207
 t76:=Tryz.underlying208
 a76:=Tryz.isAgg208
 z76:=Tryz.sizeOf208
 v76:=Tryz.zeroValue208
 t85:=Tryz.underlying265
 a85:=Tryz.isAgg265
 z85:=Tryz.sizeOf265
 v85:=Tryz.zeroValue265
 t127:=Tryz.underlying329
 a127:=Tryz.isAgg329
 z127:=Tryz.sizeOf329
 v127:=Tryz.zeroValue329
 t143:=Tryz.underlying330
 a143:=Tryz.isAgg330
 z143:=Tryz.sizeOf330
 v143:=Tryz.zeroValue330
 t145:=Tryz.underlying332
 a145:=Tryz.isAgg332
 z145:=Tryz.sizeOf332
 v145:=Tryz.zeroValue332
 t167:=Tryz.underlying264
 a167:=Tryz.isAgg264
 z167:=Tryz.sizeOf264
 v167:=Tryz.zeroValue264
 t168:=Tryz.underlying267
 a168:=Tryz.isAgg267
 z168:=Tryz.sizeOf267
 v168:=Tryz.zeroValue267
 t171:=Tryz.underlying234
 a171:=Tryz.isAgg234
 z171:=Tryz.sizeOf234
 v171:=Tryz.zeroValue234
 t173:=Tryz.underlying237
 a173:=Tryz.isAgg237
 z173:=Tryz.sizeOf237
 v173:=Tryz.zeroValue237
 t175:=Tryz.underlying281
 a175:=Tryz.isAgg281
 z175:=Tryz.sizeOf281
 v175:=Tryz.zeroValue281
 t210:=Tryz.underlying284
 a210:=Tryz.isAgg284
 z210:=Tryz.sizeOf284
 v210:=Tryz.zeroValue284
 t212:=Tryz.underlying261
 a212:=Tryz.isAgg261
 z212:=Tryz.sizeOf261
 v212:=Tryz.zeroValue261
 t213:=Tryz.underlying262
 a213:=Tryz.isAgg262
 z213:=Tryz.sizeOf262
 t232:=Tryz.underlying325
 a232:=Tryz.isAgg325
 z232:=Tryz.sizeOf325
 v232:=Tryz.zeroValue325
 t233:=Tryz.underlying326
 a233:=Tryz.isAgg326
 z233:=Tryz.sizeOf326
 v233:=Tryz.zeroValue326
 g15:=by kernel_rfl
 g16:=by kernel_rfl
 g17:=by kernel_rfl
 g18:=by kernel_rfl
 g19:=by kernel_rfl
 t80:=Tryz.underlying166
 a80:=Tryz.isAgg166
 z80:=Tryz.sizeOf166
 v80:=Tryz.zeroValue166
 i0:=by kernel_rfl
 i2:=by kernel_rfl
 i3:=by kernel_rfl
 i4:=by kernel_rfl
 i5:=by kernel_rfl
 i9:=by kernel_rfl
 i20:=by kernel_rfl
 i21:=by kernel_rfl
 i37:=by kernel_rfl
 i46:=by kernel_rfl
 i51:=by kernel_rfl
 i53:=by kernel_rfl
 i75:=by kernel_rfl
 i76:=by kernel_rfl
 i80:=by kernel_rfl
 i85:=by kernel_rfl
 i127:=by kernel_rfl
 i143:=by kernel_rfl
 i145:=by kernel_rfl
 i167:=by kernel_rfl
 i168:=by kernel_rfl
 i171:=by kernel_rfl
 i173:=by kernel_rfl
 i175:=by kernel_rfl
 i210:=by kernel_rfl
 i212:=by kernel_rfl
 i232:=by kernel_rfl
 i233:=by kernel_rfl
 m15:=by kernel_rfl
 m16:=by kernel_rfl
 m17:=by kernel_rfl
 m18:=by kernel_rfl
 m19:=by kernel_rfl
 c0:=by kernel_rfl
 c2:=by kernel_rfl
 c3:=by kernel_rfl
 c4:=by kernel_rfl
 c5:=by kernel_rfl
 c9:=by kernel_rfl
 c20:=by kernel_rfl
 c21:=by kernel_rfl
 c37:=by kernel_rfl
 c46:=by kernel_rfl
 c51:=by kernel_rfl
 c53:=by kernel_rfl
 c75:=by kernel_rfl
 c76:=by kernel_rfl
 c80:=by kernel_rfl
 c85:=by kernel_rfl
 c127:=by kernel_rfl
 c143:=by kernel_rfl
 c145:=by kernel_rfl
 c167:=by kernel_rfl
 c168:=by kernel_rfl
 c171:=by kernel_rfl
 c173:=by kernel_rfl
 c175:=by kernel_rfl
 c210:=by kernel_rfl
 c212:=by kernel_rfl
 c213:=by kernel_rfl
 c232:=by kernel_rfl
 c233:=by kernel_rfl }
open Go.RowKit in
theorem Tryz.strconv_Atoi_ok (s:ByteArray) (hmax:s.size<=9223372036854775806) (v:Int) (h:Lib.atoiAll s.data.toList = .ok v) (w:World) :
  Calls Tryz.prog 159 #[.string s] w fun e w'=>e = .returned (.tuple #[.int .i64 v,.nilIface])/\(w'=w∨∃ t,w'=Lib.bytesWorld w 5 t):=Any.strconv_Atoi_ok Tryz.laysC172 s hmax v h w
open Go.RowKit in
theorem Tryz.strconv_Atoi_syntax (s:ByteArray) (hlim:s.size<=281474976710656) (h:(∀ z,Lib.atoiAll s.data.toList ≠ .ok z)/\Lib.atoiAll s.data.toList ≠ .range) (ev:Value) (w:World) (hv:w.cell? ⟨2,0,none⟩=some ev) (hev:ev = .nilIface∨∃ te pe,ev = .iface te pe) :
  Calls Tryz.prog 159 #[.string s] w fun e w'=>∃ N,e = .returned (.tuple #[.int .i64 (0),.iface 267 (.pointer (some ⟨N,0,none⟩))])/\w.heap.size<=N/\w'.heap[N]? = some (.cells #[.string ⟨#[65,116,111,105]⟩,.string s,ev] 284 (0,0))/\Below w.heap.size w w':=Any.strconv_Atoi_syntax Tryz.laysC172 s hlim (by cases hx:Lib.atoiAll s.data.toList <;> first | rfl | exact absurd hx (h.1 _) | exact absurd hx h.2) ev w hv hev
open Go.RowKit in
theorem Tryz.strconv_Atoi_range (s:ByteArray) (hlim:s.size<=281474976710656) (h:Lib.atoiAll s.data.toList = .range) (ev:Value) (w:World) (hv:w.cell? ⟨3,0,none⟩=some ev) (hev:ev = .nilIface∨∃ te pe,ev = .iface te pe) :
  Calls Tryz.prog 159 #[.string s] w fun e w'=>∃ N,e = .returned (.tuple #[.int .i64 (Lib.atoiSat s.data.toList),.iface 267 (.pointer (some ⟨N,0,none⟩))])/\w.heap.size<=N/\w'.heap[N]? = some (.cells #[.string ⟨#[65,116,111,105]⟩,.string s,ev] 284 (0,0))/\Below w.heap.size w w':=Any.strconv_Atoi_range Tryz.laysC172 s hlim h ev w hv hev
end Go.Proofs
end
namespace Go.Proofs.YtllbbcgnnoonoaaGreatDoor
section
open Go.RowKit
open Go.Lib hiding intOf
structure Lv (w:World):Prop where
 sy:∃ ev,w.cell? ⟨2,0,none⟩=some ev/\(ev = .nilIface∨∃ te pe,ev = .iface te pe)
 ra:∃ ev,w.cell? ⟨3,0,none⟩=some ev/\(ev = .nilIface∨∃ te pe,ev = .iface te pe)
 tab : TabIs aO w "internal/strconv.uint64pow10" .u64 pow10Tab
def Vx (k:Nat):Prop:=k=2∨k=3∨k=1
def dC (T:Nat->Prop) (w:World):Prop:=Lv w/\∀ k,Vx k->¬ T k/\k<w.heap.size
theorem Lv.keep {w w':World} (h:Lv w) (O:∀ k,Vx k->w'.heap[k]? = w.heap[k]?):Lv w':=by
 obtain⟨⟨e1, h1, h2⟩, ⟨e3, h3, h4⟩, h5⟩ := h;refine⟨⟨e1, (World.cell?_of_block (w := w) (O _ (.inl rfl))).trans h1, h2⟩, ⟨e3, (World.cell?_of_block (w := w) (O _ (.inr (.inl rfl)))).trans h3, h4⟩, ?_⟩;have hg : Tryz.prog.globalNamed "internal/strconv.uint64pow10" = some 1 := by kernel_rfl
 unfold TabIs World.var? at *;simp only [hg,al] at h5 ⊢;rw [O _ (.inr (.inr rfl))]; exact h5
def bK:co:=⟨dC,fun {T T' w w'} h k n=>⟨h.1.keep fun j hj=>k.block j (h.2 j hj).2 (h.2 j hj).1,fun j hj=>⟨fun ht=>by
 rcases n j ht with h1 | h1
 ·exact (h.2 j hj).1 h1
 ·have:=(h.2 j hj).2; omega,uP (h.2 j hj).2 k.size⟩⟩⟩
theorem dC.dn {T:Nat->Prop} {w:World} (h:dC T w):dC (dT T []) w:=bK.keep h (aw _ _) (Wn w)
theorem Lv.here {w:World} (h:Lv w):dC No w:=by
 refine⟨h,fun k O=>⟨fun h=>h,?_⟩⟩;obtain⟨⟨e1,h1,h2⟩,⟨e3,h3,h4⟩,h5⟩:=h;rcases O with rfl | rfl | rfl
 ·exact World.block_lt_of_cell? _ _ h1
 ·exact World.block_lt_of_cell? _ _ h3
 ·have hg : Tryz.prog.globalNamed "internal/strconv.uint64pow10" = some 1 := by kernel_rfl
  unfold TabIs World.var? at h5;simp only [hg,al] at h5;rcases e9 1 w.heap.size with h | h
  ·exact h
  ·rw [Pq h] at h5; cases h5
def QM (n:Int):Bool:=decide (-9223372036854775808<=n)&&decide (n<=9223372036854775807)
def cV (n:Int):ByteArray:=⟨(itoa n).toArray⟩
theorem tG (n:Int):(cV n).toList=itoa n:=by rw [cV,ByteArray.toList_eq]
def yj (n:Int):Option ByteArray:=gd (QM n) (some (cV n))
theorem OF (w:World) (k:Nat) (os:Array Obj):Kt No w (Go.Sort.grow (w.drewN k) os) :=
 ⟨rfl,rfl,rfl,by show w.heap.size<=(w.heap++os).size; simp,fun j hj _=>by show (w.heap++os)[j]? = _; rw [Pp hj]⟩
theorem zH (T:Nat->Prop) (L:World) (hT:∀ k,T k->k<L.heap.size) (hLv:dC T L) (n:Int) (y:ByteArray) (B:yj n=some y):bm aO No 33 [.int .i64 n] L fun v w'=>v = .string y:=by
 unfold yj at B;obtain⟨h1,h2⟩:=a6 B;injection h2 with h2;subst h2;unfold QM at h1;simp only [lq,decide_eq_true_eq] at h1;refine Calls.mono (Tryz.strconv_Itoa n h1.1 h1.2 L hLv.1.tab) ?_;rintro e w' ⟨rfl,k,os,rfl⟩;exact⟨_,rfl,OF _ _ _,rfl⟩
def ze (s:ByteArray):Option (Int×Bool):=gd (Nat.ble s.size 140737488355328) (some (match atoiAll s.toList with
 | .ok v=>(v,false)
 | .range=>(atoiSat s.toList,true)
 | _=>(0,true)))
theorem N9 (T:Nat->Prop) (L:World) (hT:∀ k,T k->k<L.heap.size) (hLv:dC T L) (s:ByteArray) (y:Int×Bool) (B:ze s=some y):bm aO No 159 [.string s] L fun v w'=>∃ er,v = .tuple #[.int .i64 y.1,er]/\Pu er y.2:=by
 unfold ze at B;obtain⟨h1,h2⟩:=a6 B;have hs:=fw h1;injection h2 with h2;subst h2;have hl:s.data.toList=s.toList:=(ByteArray.toList_eq s).symm;cases h:atoiAll s.toList
 ·rename_i v;refine Calls.mono (Tryz.strconv_Atoi_ok s (by omega) v (by rw [hl]; exact h) L) ?_;rintro e w' ⟨rfl,hw⟩;refine⟨_,rfl,?_,.nilIface,rfl,.inl ⟨rfl,rfl⟩⟩;rcases hw with rfl | ⟨t,rfl⟩
  ·exact aw _ _
  ·exact Kt.ofBelow (Go.Joins.below_bytesWorld _ _ _ _ (bx _))
 ·obtain⟨ev,h1,h2⟩:=hLv.1.sy;refine Calls.mono (Tryz.strconv_Atoi_syntax s (by omega) (by rw [hl,h]; exact⟨(fun _ h=>nomatch h),(fun h=>nomatch h)⟩) ev L h1 h2) ?_;rintro e w' ⟨N,rfl,_,_,hb⟩;exact⟨_,rfl,Kt.ofBelow hb,_,rfl,.inr ⟨rfl,_,_,rfl⟩⟩
 ·obtain⟨ev,h1,h2⟩:=hLv.1.ra;refine Calls.mono (Tryz.strconv_Atoi_range s (by omega) (by rw [hl]; exact h) ev L h1 h2) ?_;rintro e w' ⟨N,rfl,_,_,hb⟩;rw [hl];exact⟨_,rfl,Kt.ofBelow hb,_,rfl,.inr ⟨rfl,_,_,rfl⟩⟩
end
section
open Go.RowKit
open Go.Lib hiding intOf
theorem ud (s:ByteArray):s.data.toList=s.toList:=(ByteArray.toList_eq s).symm
def pE (a b:ByteArray):Option Int:=some (Lib.compareBytes a.toList b.toList)
theorem pF (T:Nat->Prop) (L:World) (hT:∀ k,T k->k<L.heap.size) (hLv:dC T L) (a b:ByteArray) (y:Int) (B:pE a b=some y):bm aO No 51 [.string a,.string b] L fun v w'=>v = .int .i64 y:=by
 refine Calls.mono (Tryz.strings_Compare a b L) ?_;rintro e w' ⟨rfl,rfl⟩;refine⟨_,rfl,aw _ _,?_⟩;rw [ud,ud,<- bJ B]
end
section
open Go.RowKit
variable {α:Type} {R:aY α} {cl:bG} {e:TypeId} {hi lo:Nat} {t ty:TypeId} {v v':Value}
variable {pos:String} {af:Array Edge} {g:Option (Nat×Bool)}
def NZ (f g:co):co:=⟨fun T w=>f.p T w/\g.p T w,fun h k n=>⟨f.keep h.1 k n,g.keep h.2 k n⟩⟩
def Eq:co:=⟨fun _ _=>True,fun _ _ _=>trivial⟩
def RO (sz:Nat) (v v':Value) (lo hi n:Nat):Prop:=∃ A c,v = .slice A n c/\n<=c/\lo<=hi/\hi<=n/\v' = .slice (if c=lo then A else A.map (·.add (lo*sz))) (hi-lo) (c-lo)
def GK (sz:Nat) (v v':Value) (lo hi n:Nat):co:=⟨fun _ _=>RO sz v v' lo hi n,fun h _ _=>h⟩
section
variable {P:Program} {W:World} {M T E:Nat->Prop} {n:Nat} {G G':List (Nat×Value)} {D D' D0 Dr rs:List cZ} {F F':List co} {a:Act} {w w':World} {K:Act->World->Prop}
theorem vt {d:Option Nat} {f:Nat} {caps:Array Operand} {vs:bG} (I:St W M T n G D F a w) (hv:evs G caps.toList=some vs) :
  Ye P ⟨d,.makeFunc (.func f) #[] caps,ty,pos,af,g⟩ a E w (.func (.func f) #[] vs.toArray) :=
 Ye.of fun w=>by
  have h1:(caps.map a.eval)=vs.toArray:=by
   apply Dx.1;rw [Array.toList_map,I.evs hv]
  simp [execOp,Instr.makeFunc,h1]
theorem St.zx {b:Nat} {cs:bG} (h:St W M T n G D F a w) (i:Nat) (hi:D[i]? = some (.box b cs t)):St W M T n G (D.eraseIdx i) (bS b 0 cs::F) a w:=by
 have hlt:=(bR.1 hi).1;have hD:=(bR.1 hi).2;have ho:w.heap[b]? = some (.cells cs.toArray t (0,0)):=h.own _ (az hi);refine (h.drop i).fact _ ⟨fun hT=>?_,(A7.1 ho).1,fun j u hu=>?_⟩
 ·rcases hT with hT | ⟨s,hs,hT⟩
  ·exact (h.free _ (az hi) b rfl).1 hT
  ·obtain⟨z,hz⟩:=dt.1 hs;rw [DM] at hz;split at hz
   ·rename_i hzi;have hzl:=(bR.1 hz).1;have:=eC.1 h.apart z i hzl hlt hzi b (by rw [(bR.1 hz).2]; exact hT);rw [hD] at this; exact this rfl
   ·rename_i hzi;have hzl:=(bR.1 hz).1;have:=eC.1 h.apart i (z+1) hlt hzl (by omega) b (by rw [hD]; rfl);rw [(bR.1 hz).2] at this; exact this hT
 ·rw [kj,(BF.of ho).cell];simpa using hu
theorem JS {xs ys:List α} {e':TypeId} {lo hi:Int} {ag:Bool} (I:St W M T n G D F a w) (ht:mr P t=some e) (he:qZ P e=some (ag,R.size)) (q:Nat) (hq:D[q]? = some (.own v e' R.size cl)) (j:Nat) (hj:F[j]? = some (au R cl xs)) (hg:sH xs lo hi=some ys) :
  ∃ v',(∀ (T:Nat->Prop) (w:World),aQ R T w v xs->aQ R T w v' ys)/\RO R.size v v' lo.toNat hi.toNat xs.length/\(∀ {E:Nat->Prop} {d:Option Nat} {ty:TypeId} {X:Operand} {olo ohi:Option Operand} {pos:String} {af:Array Edge} {g:Option (Nat×Bool)} {k1 k2:IntKind},ev G X=some v->((∃ x,olo=some x/\ev G x=some (.int k1 lo))∨(olo=none/\lo=0))->((∃ x,ohi=some x/\ev G x=some (.int k2 hi))∨(ohi=none/\hi=xs.length))->Ye P ⟨d,.slice t X olo ohi none,ty,pos,af,g⟩ a E w v'):=by
 obtain⟨q1,q2,q3,rfl⟩:=vo hg;obtain⟨A,c,hv,h1,h2,hS'⟩:=Rd (lo:=lo.toNat) (hi:=hi.toNat) I q hq j hj (by omega) (by omega);refine⟨_,fun T w h=>?_,⟨A,c,hv,h1,by omega,by omega,rfl⟩,fun hX hlo hhi=>Rq I ht he q1 q2 q3 h1 hv hX hlo hhi⟩;subst hv;refine h.cut (by omega) (by omega) _ (fun hlt b o U=>?_);rw [if_neg (by omega),U];simp [oy]
theorem mN.mid {sz:Nat} {us:bG} {B:Nat} (h:mN w B e sz v cl) (o:Nat) (hl:o+us.length<=cl.length) (hpos:0<us.length) :
  ∃ g off m c cs,v = .slice (some ⟨g,off,none⟩) m c/\cl.length=m*sz/\m<=c/\BF w g cs e/\off+c*sz<=cs.size/\mN (w.setCells g (off+o) us) B e sz v (sF cl o us)/\(∀ j,j<us.length->(w.cell? ⟨g,off+o+j,none⟩).isSome=true)/\(∀ j,j<us.length->w.frozen? ⟨g,off+o+j,none⟩=false):=by
 rcases h with⟨_,rfl⟩|⟨g,off,m,c,cs,rfl,h1,hb,hg,hmc,hc,hsz,hcs⟩
 ·simp only [ma] at hl; omega
 have hmz:m*sz<=c*sz:=lU _ hmc;refine⟨g,off,m,c,cs,rfl,h1,hmc,hg,hsz,?_,fun j hj=>?_,fun j hj=>hg.free (by omega)⟩
 ·obtain⟨fz,hg1,hfz⟩:=hg;obtain⟨cs',a1,a2,a3,a4⟩:=eB g e fz us (off+o) w cs hg1;refine .inr ⟨g,off,m,c,cs',rfl,?_,hb,⟨fz,a1,by rw [a2]; exact hfz⟩,hmc,hc,by rw [a2]; exact hsz,fun j u hu=>?_⟩
  ·unfold sF; simp only [br,gQ,sL]; omega
  ·rw [Ab _ _ _ _ hl] at hu;split at hu
   ·rename_i hj;have:=a4 (by omega) _ u hu;rwa [show off+o+(j-o)=off+j by omega] at this
   ·rename_i hj;rw [a3 _ (by omega)]; exact hcs j u hu
 ·rw [hg.cell,xD (by omega)]; rfl
theorem Je {T:Nat->Prop} {w:World} {B:Nat} {xs:List α} {A:Option Addr} {m c:Nat} (h:mN w B e R.size v cl) (hs:0<R.size) (hr:bf R T w cl xs) (hv:v = .slice A m c):m=xs.length:=by
 rcases h with⟨rfl,rfl⟩|⟨g,off,m',c',cs,rfl,h1,_⟩
 ·injection hv with _ e2 _;have:=hr.1;rw [<- e2];cases xs with
  | nil=>rfl
  | cons x r=>simp [ga] at this; omega
 ·injection hv with _ e2 _;subst e2;exact yY hs (h1.symm.trans hr.1)
theorem bf.mid {T:Nat->Prop} {w:World} {us:bG} {xs ys:List α} (h:bf R T w cl xs) (k:bf R T w us ys) (hl:lo+ys.length<=xs.length):bf R T w (sF cl (lo*R.size) us) (xs.take lo++ys++xs.drop (lo+ys.length)):=by
 have h1:=h.cut (cT lo) (by omega);have h2:=h.cut hl (bx _);rw [DF,Fg,Fg] at h1;rw [f9,sI (by rw [h.1]; exact bx _)] at h2;have h3:=(h1.append k).append h2;unfold sF;rw [k.1,<- ga];exact h3
theorem DO (z:Value):∀ m:Nat,(Builtin.zeroCells z.cells m).toList=(List.replicate m z.cells.toList).flatten:=by
 intro m;rw [<- EK];simp [Builtin.zeroCells,madeCells]
theorem J1 {z0:α} {xs:List α} {x:Operand} {bt:Nat} {zs:bG} (I:St W M T n G D F a w) (he:Bh P t=some (e,R.size,bt)) (hz:gR P e=some zs) (hx:ev G x=some v') (i:Nat) (hi_:D[i]? = some (.own v e R.size cl)) (p:Nat) (hp:F[p]? = some (au R cl xs)) {m0:Nat} (hw:RO R.size v v' lo hi m0) (hr:R.rel (dT T D) w zs z0)
  (k:∀ cl' w',Kt (fun j=>v.ownBlock=some j) w w'->St W M T n G (D.set i (.own v e R.size cl')) (au R cl' (xs.take lo++List.replicate (hi-lo) z0++xs.drop hi)::F) a w'->K a w'):t8 P ⟨none,.call { callee:=.builtin .clear,args:=#[x],argTypes:=#[t] },ty,pos,af,g⟩ a w K:=by
 obtain⟨hown,hsz⟩:=I.own _ (az hi_);have hrow:bf R (dT T D) w cl xs:=I.get p hp;obtain⟨A,c,hv,hnc,hlh,hhn,hv'⟩:=hw;obtain rfl:m0=xs.length:=Je hown hsz hrow hv;obtain⟨ht,_⟩:=wV he;obtain⟨z,hzl,hzr⟩:=A9 hz w;have hx':=I.ev hx;by_cases h0:hi-lo=0
 ·have h1:(execOp a.eval ⟨none,.call { callee:=.builtin .clear,args:=#[x],argTypes:=#[t] },ty,pos,af,g⟩).run P w = .ok (.value (.tuple #[])) w:=by
   rw [h0] at hv';subst hv';simp only [execOp,resolve,invoke,builtin];generalize (if c=lo then A else A.map (·.add (lo*R.size)))=A' at hx' ;cases A' <;> simp [Builtin.clear_,hx',run_underlying ht]
  refine Aw h1 (k cl w (aw _ _) ?_);rw [h0];have e1:xs.take lo++List.replicate 0 z0++xs.drop hi=xs:=by
   rw [List.replicate_zero,jA,show hi=lo by omega,qS]
  rw [e1];have h2:=(I.fact (au R cl xs) hrow).turn hi_ (w':=w) (aw _ _) (r':=.own v e R.size cl) ⟨hown,hsz⟩ (fun j hj=>.inl hj);exact h2
 ·have hrows:=bf.rep hr (hi-lo);have hlen:=hrows.1;rw [List.length_replicate] at hlen;have hclen:=hrow.1;have q1:lo*R.size+(hi-lo)*R.size<=cl.length:=by
   rw [hclen,<- ga]; exact lU _ (by omega)
  have q2:0<(hi-lo)*R.size:=Nat.mul_pos (by omega) hsz;obtain⟨gb,off,m,c',cs,hv2,h1,hmc,hg,hcs,hown',hcell,hfree⟩:=hown.mid (us:=(List.replicate (hi-lo) zs).flatten) (lo*R.size) (by rw [hlen]; exact q1) (by rw [hlen]; exact q2);have hrow':=hrow.mid hrows (lo:=lo) (by rw [List.length_replicate]; omega);rw [List.length_replicate,show lo+(hi-lo)=hi by omega] at hrow';rw [hv] at hv2;injection hv2 with e1 e2 e3;subst e1 e2 e3;have U:(if c=lo then (some ⟨gb,off,none⟩:Option Addr) else (some (⟨gb,off,none⟩:Addr)).map (·.add (lo*R.size)))=some ⟨gb,off+lo*R.size,none⟩:=by
   rw [if_neg (by omega)]; simp [oy]
  rw [U] at hv';subst hv';have hst:=run_storeCells_cells (P:=P) gb (off+lo*R.size) (List.replicate (hi-lo) zs).flatten 0 w (by simpa using hcell) (by simpa using hfree) (hrows.cell hsz);simp only [mz] at hst;have hzc:(Builtin.zeroCells z.cells (hi-lo)).toList=(List.replicate (hi-lo) zs).flatten:=by rw [DO,hzl]
  have h1:(execOp a.eval ⟨none,.call { callee:=.builtin .clear,args:=#[x],argTypes:=#[t] },ty,pos,af,g⟩).run P w = .ok (.value (.tuple #[])) (w.setCells gb (off+lo*R.size) (List.replicate (hi-lo) zs).flatten):=by
   obtain⟨m',hm'⟩:∃ m',hi-lo=m'+1:=⟨hi-lo-1,by omega⟩;rw [hm'] at hx' hzc hst ⊢;simp [execOp,resolve,invoke,builtin,Builtin.clear_,hx',run_underlying ht,hzr,hzc,hst]
  subst hv;have hkt:Kt (fun j=>(Value.slice (some ⟨gb,off,none⟩) xs.length c).ownBlock=some j) w (w.setCells gb (off+lo*R.size) (List.replicate (hi-lo) zs).flatten):=(Kt.setCells _ _ _ _).mono fun j h=>by rw [h]; rfl
  refine Aw h1 (k (sF cl (lo*R.size) (List.replicate (hi-lo) zs).flatten) _ hkt ?_);exact (I.fact (au R _ _) hrow').turn hi_ hkt (r':=.own (.slice (some ⟨gb,off,none⟩) xs.length c) e R.size (sF cl (lo*R.size) (List.replicate (hi-lo) zs).flatten)) ⟨hown',hsz⟩ (fun j hj=>.inl hj)
theorem uX {xs:List α} {x:α} {e':TypeId} {i:Int} {ag:Bool} (I:St W M T n G D F a w) (ht:mr P t=some e) (he:qZ P e=some (ag,R.size)) (q:Nat) (hq:D[q]? = some (.own v e' R.size cl)) (j:Nat) (hj:F[j]? = some (au R cl xs)) {m0:Nat} (hw:RO R.size v v' lo hi m0) (h0:decide (0<=i)=true) (h1:decide (i<((hi-lo:Nat):Int))=true) (hg:bp xs ((lo:Int)+i)=some x) :
  ∃ b o p cs,R.rel (dT T D) w cs x/\Ru v b o R.size ((lo:Int)+i) p/\(∀ k u,cs[k]? = some u->cl[p+k]? = some u)/\(∀ {E:Nat->Prop} {d:Option Nat} {ty:TypeId} {X Y:Operand} {pos:String} {af:Array Edge} {g:Option (Nat×Bool)} {k:IntKind},ev G X=some v'->ev G Y=some (.int k i)->Ye P ⟨d,.indexAddr t X Y,ty,pos,af,g⟩ a E w (.pointer (some ⟨b,o,none⟩))):=by
 obtain⟨b,off,c,rfl,cs,g1,g2⟩:=FZ I q hq j hj hg;have h0:=of_decide_eq_true h0;have h1:=of_decide_eq_true h1;obtain⟨A,c2,hv,hnc,hlh,hhn,rfl⟩:=hw;injection hv with e1 e2 e3;subst e1 e2 e3;have U:(if c=lo then (some ⟨b,off,none⟩:Option Addr) else (some (⟨b,off,none⟩:Addr)).map (·.add (lo*R.size)))=some ⟨b,off+lo*R.size,none⟩:=by
  rw [if_neg (by omega)]; simp [oy]
 rw [U];have he2:off+((lo:Int)+i).toNat*R.size=off+lo*R.size+i.toNat*R.size:=by
  rw [show ((lo:Int)+i).toNat=lo+i.toNat by omega,ga]; omega
 refine⟨b,off+((lo:Int)+i).toNat*R.size,_,cs,g1,⟨off,_,_,rfl,rfl,rfl⟩,g2,fun hX hY=>Ye.of fun w=>?_⟩;rw [he2];simp [execOp,I.ev hX,I.ev hY,su ht he h0 h1]
theorem NP {d:Option Nat} {x:Operand} {sz:Nat} {m:Nat} (I:St W M T n G D F a w) (ht:mr P t=some e) (hx:ev G x=some v') (hw:RO sz v v' lo hi m) :
  Ye P ⟨d,.call { callee:=.builtin .len,args:=#[x],argTypes:=#[t] },ty,pos,af,g⟩ a E w (.int .i64 ((hi-lo:Nat):Int)):=by
 obtain⟨A,c2,hv,hnc,hlh,hhn,rfl⟩:=hw;exact Jy I ht hx ⟨_,_,rfl⟩
theorem co.dn (f:co) {T:Nat->Prop} {w:World} (h:f.p T w):f.p (dT T []) w:=f.keep h (aw _ _) fun k O=>by
 rcases O with O | ⟨r,hr,_⟩
 ·exact .inl O
 ·cases hr
end
section
variable {κ ν:Type} {P:Program} {W:World} {M T E:Nat->Prop} {n:Nat} {G G':List (Nat×Value)} {D D':List cZ} {F F':List co} {a:Act} {w w':World} {K:Act->World->Prop}
variable {kt et:TypeId} {RK:aY κ} {ak:Bool} {RV:aY ν} {av:Bool} {q:κ->κ->Bool} {b clock:Nat} {es:Array MapEntry} {xs:List (κ×ν)}
theorem QP {t2:TypeId} {X Y:Operand} (I:St W M T n G D F a w) (ht:J8 P t=some (kt,et)) (hK:Ai P kt RK ak q) (i:Nat) (hi:D[i]? = some (.obj b (.map es clock))) (j:Nat) (hj:F[j]? = some (ir RK ak RV av es xs))
  {c:bG} {key:κ} (hc:RK.rel (dT T D) w c key) (hX:ev G X=some (.map (some b))) (hY:ev G Y=some (bF ak c))
  (k:∀ es' ck' w',Kt (fun j=>j=b) w w'->St W M T n G (D.set i (.obj b (.map es' ck'))) (ir RK ak RV av es' (tK q key xs)::F) a w'->K a w'):t8 P ⟨none,.call { callee:=.builtin .delete,args:=#[X,Y],argTypes:=#[t,t2] },ty,pos,af,g⟩ a w K:=by
 have hr:w.heap[b]? = some (.map es clock):=I.own _ (az hi);have hm:=I.mapOk j hj;obtain⟨hl,hkeys⟩:=xU hm;have hf:=tC hK hc w hl hkeys;have hch:=hK.check es.isEmpty _ _ w _ _ hc;have fin:∀ es' ck',(Builtin.delete_ #[t,t2] ty #[.map (some b),bF ak c]).run P w = .ok (.tuple #[]) { w with heap:=w.heap.setIfInBounds b (.map es' ck') }->bW RK ak RV av (dT T D) w es' (tK q key xs)->t8 P ⟨none,.call { callee:=.builtin .delete,args:=#[X,Y],argTypes:=#[t,t2] },ty,pos,af,g⟩ a w K:=fun es' ck' hrun hok=>by
  refine Aw (w':={ w with heap:=w.heap.setIfInBounds b (.map es' ck') }) (v:=.tuple #[]) (by simp [execOp,resolve,invoke,builtin,I.ev hX,I.ev hY,hrun]) (k es' ck' _ ((sG hr).mono fun j hj=>(bJ hj).symm) ?_);exact (I.fact (ir RK ak RV av es' _) hok).turn hi (sG hr) (r':=.obj b (.map es' ck')) (x8 hr).1 fun j hj=>.inl hj
 cases hp:vP q key xs with
 | none =>
  obtain⟨_,_,g3⟩:=ta hp;rw [hp] at hf;refine fin es clock ?_ (by rw [g3]; exact hm);simp [Builtin.delete_,run_underlying (pa ht),yE hr,hch,hf,BX,Gb _ hr]
 | some p =>
  obtain⟨x0,hx0,hq0,_,_,g3⟩:=tb hp;have hpi:p<es.size:=by rw [hm.1]; exact (bR.1 hx0).1
  have he0:es[p]? = some es[p]:=xD hpi;rw [hp] at hf;have hat:BX es.toList 0 (some p)=some (p,es[p].val):=by simp [BX,he0]
  rw [hat] at hf;refine fin (es.eraseIdxIfInBounds p) clock ?_ ⟨?_,fun z e x he hx=>?_⟩
  ·simp [Builtin.delete_,run_underlying (pa ht),yE hr,hch,hf,Gb _ hr]
  ·rw [g3];have h1:(es.eraseIdxIfInBounds p).size=es.size-1:=by simp [Array.eraseIdxIfInBounds,hpi]
   rw [h1,List.length_eraseIdx,if_pos (by rw [<- hm.1]; exact hpi),hm.1]
  ·rw [g3,DM] at hx;have he2:(es.eraseIdxIfInBounds p)[z]? = if z<p then es[z]? else es[z+1]?:=by
    simp only [Array.eraseIdxIfInBounds,hpi,dif_pos];rw [Array.getElem?_eraseIdx]
   rw [he2] at he;split at hx
   ·rename_i hz;rw [if_pos hz] at he;exact hm.2 z e x he hx
   ·rename_i hz;rw [if_neg hz] at he;exact hm.2 (z+1) e x he hx
end
end
end Go.Proofs.YtllbbcgnnoonoaaGreatDoor
