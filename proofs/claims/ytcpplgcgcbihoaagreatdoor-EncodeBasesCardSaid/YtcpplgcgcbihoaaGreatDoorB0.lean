/- Texts of the proof, joined (0). -/
import Derived.Test.YtcpplgcgcbihoaaGreatDoorProg
import Derived.WalkKit
import Derived.WalkSpells
import Derived.WalkLawsBesides
import Derived.BigQuiet
import Derived.Deep.QuietTactic
import Derived.Deep.CutBlock
import Derived.Deep.DeepCutAuto
import Derived.Laws.OwnMore
import Derived.Laws.IdiomCopy
import Derived.ArgAppend
import Derived.Deep.Draws
import Derived.RegionTactic
import Derived.Deep.RegionWith
import Derived.Deep.RegionHeld3
import Derived.Deep.RegionLaw
import Derived.Laws.Rows
import Derived.Laws.Tables
import Derived.Laws.CopyRow
import Derived.Laws.MakeOwn
import Derived.Great.BuildSlice
import Derived.Orders
import Derived.Laws.Small
import Derived.Laws.StructEq
import Derived.Laws.Cover3
import Derived.WideLaws
import Derived.Lib.AppendStr
import Derived.Lib.ConvBytes
import Derived.Laws.BytesString
import Derived.Lib.SmallJoins
import Derived.Lib.ItoaNum
import Derived.Lib.AtoiAll
import Derived.Shelf.Small.Bits
import Derived.Shelf.Small.Strs
import Derived.Shelf.Small.Wraps
import Derived.Shelf.Strconv.Atoi
import Derived.Shelf.Strconv.Itoa0
import Derived.Shelf.Strconv.Itoa1
import Derived.Shelf.LaysM
import Derived.Shelf.Strconv.Itoa2
import Derived.Shelf.Strconv.Itoa3
import Derived.Shelf.Strconv.AtoiErrFast
import Derived.Shelf.Strconv.ParseIntEmpty
import Derived.Shelf.Strconv.AtoiFail
import Derived.Shelf.Strconv.Clone
import Derived.Shelf.Strconv.SyntaxError
import Derived.Shelf.LaysC
import Derived.Shelf.Strconv.ToError
import Derived.Shelf.Strconv.Lower
import Derived.Shelf.Strconv.ParseUint10
import Derived.Shelf.Strconv.ParseUint10Empty
import Derived.Shelf.Strconv.ParseUint10Any
import Derived.Shelf.Strconv.ParseInt10
import Derived.Shelf.Strconv.AtoiLong
import Derived.Shelf.Strconv.AtoiInnerAll
import Derived.Shelf.Strconv.RangeError
import Derived.Shelf.Strconv.ToErrorRange
import Derived.Shelf.Strconv.AtoiAll
import Derived.Shelf.Strconv.ErrVarAll
import Derived.Lib.AppendIntMem
import Derived.IntWalk
set_option linter.unusedVariables false
set_option linter.unusedSimpArgs false
set_option linter.unusedSectionVars false
namespace Go.Proofs.YtcpplgcgcbihoaaGreatDoor
section
open Go.RowKit
variable {a:World} {cs:Array Value} {g:Nat}
abbrev Ot:=@Array.any_eq_true'
abbrev QH:=@Array.getD_eq_getD_getElem?
abbrev Ou:=@Array.getElem?_append_left
abbrev BT:=@Array.getElem?_eq_getElem
abbrev Ov:=@Array.getElem?_eq_none
abbrev Ef:=@Array.getElem?_eq_some_iff
abbrev HA:=@Array.getElem?_modify
abbrev QI:=@Array.getElem?_push_lt
abbrev Ow:=@Array.getElem?_push_size
abbrev HG:=@Array.toList_inj
abbrev JJ:=@Array.toList_map
abbrev E0:=@BitVec.eq_of_getLsbD_eq
abbrev Bz:=@BitVec.getLsbD_shiftLeft
abbrev Hs:=@BitVec.getLsbD_ushiftRight
abbrev Ht:=@BitVec.getLsbD_xor
abbrev M5:=@BitVec.msb_eq_getLsbD_last
abbrev JK:=@BitVec.ofInt_natCast
abbrev JL:=@BitVec.shiftLeft_add
abbrev JM:=@BitVec.toNat_ofNat
abbrev Au:=@BitVec.xor_assoc
abbrev Hu:=@BitVec.xor_self
abbrev DF:=@BitVec.xor_zero
abbrev qj:=@Bool.and_eq_true
abbrev E1:=@Bool.false_eq_true
abbrev Hv:=@Bool.not_eq_true
abbrev tI:=@Bool.not_eq_true'
abbrev fv:=@Bool.not_false
abbrev dJ:=@Bool.not_true
abbrev yg:=@Bool.or_eq_true
abbrev Av:=@Bool.true_and
abbrev kz:=@ByteArray.size_append
abbrev DG:=@Classical.byContradiction
abbrev BA:=@Exists.intro
abbrev M6:=@Int.fdiv_eq_ediv_of_nonneg
abbrev sB:=@Int.le_refl
abbrev E2:=@Int.tmod_lt_of_pos
abbrev E3:=@Int.tmod_nonneg
abbrev sC:=@Int.toNat_natCast
abbrev JN:=@List.Pairwise.filter
abbrev sD:=@List.Pairwise.nil
abbrev BB:=@List.any_eq_false
abbrev Aw:=@List.any_eq_true
abbrev fq:=@List.append_assoc
abbrev Ax:=@List.append_nil
abbrev Hw:=@List.drop_eq_getElem_cons
abbrev JO:=@List.drop_left'
abbrev Hx:=@List.drop_length
abbrev yh:=@List.drop_zero
abbrev DH:=@List.eq_nil_of_length_eq_zero
abbrev t8:=@List.filter_append
abbrev yi:=@List.filter_cons_of_neg
abbrev E4:=@List.filter_cons_of_pos
abbrev JP:=@List.filter_eq_nil_iff
abbrev E5:=@List.filter_eq_self
abbrev Hy:=@List.find?_eq_none
abbrev yj:=@List.flatMap_append
abbrev wd:=@List.flatMap_cons
abbrev Hz:=@List.foldl_cons
abbrev M7:=@List.getD_eq_getElem?_getD
abbrev JQ:=@List.getElem?_append
abbrev se:=@List.getElem?_append_left
abbrev ua:=@List.getElem?_append_right
abbrev E6:=@List.getElem?_cons_succ
abbrev E7:=@List.getElem?_cons_zero
abbrev xi:=@List.getElem?_drop
abbrev cH:=@List.getElem?_eq_getElem
abbrev E8:=@List.getElem?_eq_none
abbrev cu:=@List.getElem?_eq_some_iff
abbrev DI:=@List.getElem?_eraseIdx
abbrev sf:=@List.getElem?_map
abbrev Ay:=@List.getElem?_set
abbrev E9:=@List.getElem?_set_self
abbrev ub:=@List.getElem?_take
abbrev iK:=@List.getElem_mem
abbrev JR:=@List.getElem_of_mem
abbrev HB:=@List.getElem_set_ne
abbrev bk:=@List.length_append
abbrev ip:=@List.length_cons
abbrev mO:=@List.length_drop
abbrev oz:=@List.length_map
abbrev sg:=@List.length_nil
abbrev BC:=@List.length_range
abbrev HC:=@List.length_set
abbrev HD:=@List.length_singleton
abbrev eS:=@List.length_take
abbrev Az:=@List.map_append
abbrev HE:=@List.map_congr_left
abbrev yk:=@List.map_cons
abbrev AA:=@List.map_map
abbrev HF:=@List.map_nil
abbrev JS:=@List.map_toArray
abbrev dw:=@List.mem_append
abbrev oA:=@List.mem_append_left
abbrev xj:=@List.mem_append_right
abbrev dX:=@List.mem_cons
abbrev yl:=@List.mem_cons_of_mem
abbrev xk:=@List.mem_cons_self
abbrev oB:=@List.mem_filter
abbrev nP:=@List.mem_iff_getElem?
abbrev kC:=@List.mem_map
abbrev F8:=@List.mem_map_of_mem
abbrev IF:=@List.mem_of_find?_eq_some
abbrev aD:=@List.mem_of_getElem?
abbrev A8:=@List.mem_of_mem_drop
abbrev IG:=@List.mem_of_mem_eraseIdx
abbrev y4:=@List.mem_of_mem_take
abbrev vS:=@List.mem_range
abbrev dF:=@List.mem_singleton
abbrev qU:=@List.nil_append
abbrev A9:=@List.nodup_cons
abbrev fu:=@List.not_mem_nil
abbrev uw:=@List.pairwise_append
abbrev vT:=@List.pairwise_cons
abbrev gC:=@List.pairwise_iff_getElem
abbrev F9:=@List.size_toArray
abbrev qV:=@List.take_append_drop
abbrev Ga:=@List.take_left'
abbrev fW:=@List.take_length
abbrev Ba:=@List.take_of_length_le
abbrev y5:=@Nat.add_assoc
abbrev jL:=@Nat.add_mul
abbrev qi:=@Nat.add_zero
abbrev sw:=@Nat.ble_eq_true_of_le
abbrev Bb:=@Nat.div_eq_of_lt
abbrev Gb:=@Nat.div_le_div_left
abbrev Bc:=@Nat.div_one
abbrev xf:=@Nat.eq_of_beq_eq_true
abbrev y6:=@Nat.eq_zero_or_pos
abbrev cw:=@Nat.le_of_ble_eq_true
abbrev sx:=@Nat.le_of_eq
abbrev cm:=@Nat.le_refl
abbrev Bd:=@Nat.le_succ
abbrev cN:=@Nat.le_trans
abbrev xg:=@Nat.lt_of_lt_of_le
abbrev gD:=@Nat.lt_or_ge
abbrev y7:=@Nat.lt_or_gt_of_ne
abbrev y8:=@Nat.min_eq_left
abbrev y9:=@Nat.mod_eq_of_lt
abbrev nY:=@Nat.mul_le_mul_right
abbrev za:=@Nat.mul_right_cancel
abbrev ux:=@Nat.pow_le_pow_right
abbrev Be:=@Nat.pow_succ
abbrev DD:=@Nat.pow_zero
abbrev xh:=@Nat.sub_self
abbrev DE:=@Nat.testBit_lt_two_pow
abbrev pa:=@Nat.zero_add
abbrev bY:=@Nat.zero_le
abbrev ad:=@Option.bind_some
abbrev Bf:=@Option.getD_some
abbrev mJ:=@Option.map_some
abbrev cC:=@Option.some.inj
abbrev cp:=@Option.some.injEq
abbrev ze:=@Prod.mk.injEq
abbrev Bg:=@UInt8.not_lt
abbrev bK:=List Value
noncomputable abbrev aR:=Tryz.prog
abbrev am (x:Int):Value:=.int .i64 x
abbrev aU (x:ByteArray):Value:=.string x
abbrev cr:ByteArray:=ByteArray.mk #[]
def Dr (w w':World):Prop:=∃ n,w'=w.drewN n
theorem Dr.refl (w:World):Dr w w:=⟨0,rfl⟩
theorem Dr.next {w:World} (h:Dr w a) (n:Nat):Dr w (a.drewN n):=by
 obtain⟨m,rfl⟩:=h; exact⟨m+n,by rw [World.drewN_drewN]⟩
theorem Dr.trans {w b:World} (h:Dr w a) (k:Dr a b):Dr w b:=by
 obtain⟨m,rfl⟩:=k; exact h.next m
theorem Dr.below {w:World} (h:Dr w a) (B:Nat):Below B w a:=by
 obtain⟨m,rfl⟩:=h; exact⟨rfl,rfl,rfl,cm _,fun _ _=>rfl⟩
theorem HU {w w':World} (h:Below a.heap.size a w) (k:Below w.heap.size w w'):Below a.heap.size a w':=h.trans (k.mono h.size)
structure Nb (P:Program) (t e:TypeId) (size bytes:Nat):Prop where
 ht:P.underlying t=some (.slice e)
 hi:∃ i z,P.info? e=some i/\i.zero=some z/\i.size=size/\i.bytes=bytes/\z.cells.size=size
 pos:0<size
def Sl {α:Type} (enc:α->bK) (size:Nat) (w:World) (B:Nat) (v:Value) (xs:List α):Prop :=
 ∃ A c,v = .slice A xs.length c/\xs.length<=c/\c<=maxLen /\
  (xs=[]∨∃ b off,A=some ⟨b,off,none⟩/\b<B/\∀ k x,xs[k]? = some x->∀ j u,(enc x)[j]? = some u->w.cell? ⟨b,off+k*size+j,none⟩=some u)
section
variable {α:Type} {enc:α->bK} {size:Nat} {w w':World} {B B':Nat} {v:Value} {xs:List α}
theorem Sl.keep (h:Sl enc size w B v xs) (O:∀ p:Addr,p.block<B->w'.cell? p=w.cell? p):Sl enc size w' B v xs:=by
 obtain⟨A,c,e,h1,h2,h3⟩:=h;refine⟨A,c,e,h1,h2,?_⟩;rcases h3 with h3 | ⟨b,off,e2,hb,hc⟩
 ·exact .inl h3
 ·exact .inr ⟨b,off,e2,hb,fun k x hx j u hu=>(O _ hb).trans (hc k x hx j u hu)⟩
theorem Sl.below (h:Sl enc size w B v xs) (hb:Below B w w'):Sl enc size w' B v xs:=h.keep fun _ hp=>hb.cell hp
theorem Sl.more (h:Sl enc size w B v xs) (hB:B<=B'):Sl enc size w B' v xs:=by
 obtain⟨A,c,e,h1,h2,h3⟩:=h;refine⟨A,c,e,h1,h2,?_⟩;rcases h3 with h3 | ⟨b,off,e2,hb,hc⟩
 ·exact .inl h3
 ·exact .inr ⟨b,off,e2,by omega,hc⟩
theorem Sl.later (h:Sl enc size w w.heap.size v xs) (hb:Below w.heap.size w w'):Sl enc size w' w'.heap.size v xs:=(h.below hb).more hb.size
theorem Sl.nil_ (c:Nat) (A:Option Addr) (hc:c<=maxLen):Sl enc size w B (.slice A 0 c) []:=⟨A,c,rfl,bY _,hc,.inl rfl⟩
end
def At (w:World) (A:Option Addr) (cs:bK):Prop:=cs=[]∨∃ b off,A=some ⟨b,off,none⟩/\∀ j u,cs[j]? = some u->w.cell? ⟨b,off+j,none⟩=some u
def QO (A:Option Addr) (B:Nat) (cs:bK):Prop:=cs=[]∨∃ b off,A=some ⟨b,off,none⟩/\b<B
theorem At.below {w w':World} {A:Option Addr} {cs:bK} {B:Nat} (h:At w A cs) (hl:QO A B cs) (hb:Below B w w'):At w' A cs:=by
 rcases h with h | ⟨b,off,e,h⟩
 ·exact .inl h
 ·rcases hl with hl | ⟨b',off',e',hl⟩
  ·exact .inl hl
  ·rw [e] at e'; injection e' with e'; injection e' with e1 e2; subst e1 e2;exact .inr ⟨b,off,e,fun j u hu=>(hb.cell (by exact hl)).trans (h j u hu)⟩
theorem At.later {w w':World} {A:Option Addr} {cs:bK} (h:At w A cs) (hl:QO A w.heap.size cs) (hb:Below w.heap.size w w'):At w' A cs:=h.below hl hb
theorem Bs {α:Type} {enc:α->bK} {size:Nat} (he:∀ x,(enc x).length=size) (xs:List α):(xs.flatMap enc).length=xs.length*size:=by
 induction xs with
 | nil=>simp
 | cons x r ih=>simp only [wd,bk,he,ih,ip]; rw [jL]; omega
theorem GF {α:Type} {enc:α->bK} {size:Nat} (he:∀ x,(enc x).length=size):∀ (xs:List α) (k j:Nat) (x:α),xs[k]? = some x->j<size->(xs.flatMap enc)[k*size+j]? = (enc x)[j]?
 | [],k,j,x,h,_=>by simp at h
 | y::r,0,j,x,h,hj=>by
  simp only [E7,cp] at h;subst h;simp only [wd,Nat.zero_mul,pa];rw [se (by rw [he]; exact hj)]
 | y::r,k+1,j,x,h,hj=>by
  simp only [E6] at h;have:=GF he r k j x h hj;simp only [wd];rw [ua (by rw [he,jL]; omega),he,<- this];congr 1;rw [jL]; omega
def Eh (w:World) (g:Nat) (cs:Array Value) (e:TypeId):Prop:=∃ fz:Nat×Nat,w.heap[g]? = some (.cells cs e fz)/\(fz=(0,0)∨cs.size<=fz.1)
theorem Eh.of {w:World} {e:TypeId} (h:w.heap[g]? = some (.cells cs e (0,0))):Eh w g cs e:=⟨_,h,.inl rfl⟩
theorem Eh.lt {w:World} {e:TypeId} (h:Eh w g cs e):g<w.heap.size:=by
 obtain⟨fz,h1,_⟩:=h;exact (Ef.1 h1).1
theorem Eh.eqb {w w':World} {e:TypeId} (h:Eh w g cs e) (hb:w'.heap[g]? = w.heap[g]?):Eh w' g cs e:=by
 obtain⟨fz,h1,h2⟩:=h;exact⟨fz,hb.trans h1,h2⟩
theorem Eh.cell {w:World} {e:TypeId} (h:Eh w g cs e) (o:Nat):w.cell? ⟨g,o,none⟩=cs[o]?:=by
 obtain⟨fz,h1,_⟩:=h;exact cell_of_row w g o cs e fz h1
theorem Eh.free {w:World} {e:TypeId} (h:Eh w g cs e) {o:Nat} (ho:o<cs.size):w.frozen? ⟨g,o,none⟩=false:=by
 obtain⟨fz,h1,h2⟩:=h;simp only [World.frozen?,h1];rcases h2 with rfl | h2
 ·simp
 ·simp; omega
theorem Eh.ty {w:World} {cs2:Array Value} {e e2:TypeId} (h:Eh w g cs e) (k:Eh w g cs2 e2):e=e2:=by
 obtain⟨fz,h1,_⟩:=h;obtain⟨fz2,h2,_⟩:=k;rw [h1] at h2;injection h2 with h2;injection h2
def pv (w:World) (B:Nat) (e:TypeId) (size:Nat) (v:Value) (xs:bK):Prop :=
 (v = .slice none 0 0/\xs=[]) ∨
 ∃ g off n cap cs,v = .slice (some ⟨g,off,none⟩) n cap/\xs.length=n*size/\B<=g/\Eh w g cs e/\n<=cap/\cap<=maxLen/\off+cap*size<=cs.size /\
  ∀ j u,xs[j]? = some u->cs[off+j]? = some u
theorem nq (g:Nat) (e:TypeId) (fr:Nat×Nat):∀ (vs:bK) (o:Nat) (w:World) (cs:Array Value),w.heap[g]? = some (.cells cs e fr) ->
  ∃ cs',(w.setCells g o vs).heap[g]? = some (.cells cs' e fr)/\cs'.size=cs.size/\(∀ j,(j<o∨o+vs.length<=j)->cs'[j]? = cs[j]?)/\(o+vs.length<=cs.size->∀ j u,vs[j]? = some u->cs'[o+j]? = some u)
 | [],o,w,cs,h=>⟨cs,h,rfl,fun _ _=>rfl,fun _ j u hu=>by simp at hu⟩
 | v::r,o,w,cs,h=>by
  have h1:(w.setCell ⟨g,o,none⟩ v).heap[g]? = some (.cells (cs.setIfInBounds o v) e fr):=by simp [World.setCell,HA,h]
  obtain⟨cs',a1,a2,a3,a4⟩:=nq g e fr r (o+1) _ _ h1;refine⟨cs',a1,by rw [a2]; simp,fun j hj=>?_,fun hl j u hu=>?_⟩
  ·rw [a3 j (by simp only [ip] at hj; omega),Array.getElem?_setIfInBounds,if_neg (by simp only [ip] at hj; omega)]
  ·simp only [ip] at hl;cases j with
   | zero =>
    simp only [E7,cp] at hu;subst hu;rw [qi,a3 o (by omega),Array.getElem?_setIfInBounds,if_pos rfl,if_pos (by omega)]
   | succ j =>
    simp only [E6] at hu;have:=a4 (by simp; omega) j u hu;rwa [show o+(j+1)=o+1+j by omega]
theorem vM (g:Nat):∀ (vs:bK) (o:Nat) (w:World) (k:Nat),k≠g->(w.setCells g o vs).heap[k]? = w.heap[k]?
 | [],_,_,_,_=>rfl
 | v::r,o,w,k,h=>by
  show ((w.setCell ⟨g,o,none⟩ v).setCells g (o+1) r).heap[k]? = _;rw [vM g r (o+1) _ k h]; exact Below.heap_setCell w _ v k h
theorem ut (g:Nat):∀ (vs:bK) (o:Nat) (w:World),(w.setCells g o vs).heap.size=w.heap.size
 | [],_,_=>rfl
 | v::r,o,w=>by
  show ((w.setCell ⟨g,o,none⟩ v).setCells g (o+1) r).heap.size=_;rw [ut g r (o+1) _]; simp [World.setCell]
theorem kr (g:Nat):∀ (vs:bK) (o:Nat) (w:World),(w.setCells g o vs).os=w.os/\(w.setCells g o vs).tape=w.tape/\(w.setCells g o vs).output=w.output
 | [],_,_=>⟨rfl,rfl,rfl⟩
 | v::r,o,w=>kr g r (o+1) (w.setCell ⟨g,o,none⟩ v)
theorem w6 (w:World) (g o:Nat) (vs:bK):w.grownBy (w.setCells g o vs) (some g) :=
 ⟨(kr g vs o w).1,(kr g vs o w).2.1,(kr g vs o w).2.2,by rw [ut]; exact cm _,fun k _ O=>vM g vs o w k (fun e=>O (by rw [e]))⟩
section
variable {w w':World} {B B':Nat} {e:TypeId} {size:Nat} {v:Value} {xs:bK}
theorem pv.nil_ (w:World) (B:Nat) (e:TypeId) (size:Nat):pv w B e size (.slice none 0 0) []:=.inl ⟨rfl,rfl⟩
theorem pv.lit (w:World) (B:Nat) (e:TypeId) (size:Nat) (cs:Array Value) (n:Nat) (hB:B<=w.heap.size) (hs:cs.size=n*size) (hc:n<=maxLen):pv (w.alloc (.cells cs e)) B e size (.slice (some ⟨w.heap.size,0,none⟩) n n) cs.toList :=
 .inr ⟨w.heap.size,0,n,n,cs,rfl,by simpa using hs,hB,.of (heap_alloc_new w _),cm _,hc,by omega,fun j u hu=>by simpa using hu⟩
theorem pv.blk (h:pv w B e size v xs):∀ k,v.ownBlock=some k->B<=k/\k<w.heap.size/\∃ cs,Eh w k cs e:=by
 intro k O;rcases h with⟨rfl,_⟩|⟨g,off,n,cap,cs,rfl,_,hb,hg,_⟩
 ·simp [Value.ownBlock] at O
 ·simp [Value.ownBlock] at O;subst O;exact⟨hb,hg.lt,cs,hg⟩
theorem pv.keep (h:pv w B e size v xs) (O:∀ k,k<w.heap.size->w'.heap[k]? = w.heap[k]?):pv w' B e size v xs:=by
 rcases h with h | ⟨g,off,n,cap,cs,rfl,h1,hb,hgg,rest⟩
 ·exact .inl h
 ·refine .inr ⟨g,off,n,cap,cs,rfl,h1,hb,?_,rest⟩;exact hgg.eqb (O g hgg.lt)
theorem pv.later (h:pv w B e size v xs) (hb:Below w.heap.size w w'):pv w' B e size v xs:=h.keep hb.block
theorem pv.alloc (h:pv w B e size v xs) (o:Obj):pv (w.alloc o) B e size v xs:=h.keep fun k O=>Below.heap_alloc w o k O
theorem pv.drew (h:pv w B e size v xs):pv w.drew B e size v xs:=h
theorem pv.drewN (h:pv w B e size v xs) (n:Nat):pv (w.drewN n) B e size v xs:=h
theorem pv.form (h:pv w B e size v xs) (hs:0<size):∃ A n c,v = .slice A n c/\xs.length=n*size/\n<=c/\c<=maxLen/\At w A xs:=by
 rcases h with⟨rfl,rfl⟩|⟨g,off,n,cap,cs,rfl,h1,hb,hg,hnc,hc,hsz,hcs⟩
 ·exact⟨none,0,0,rfl,by simp,cm _,bY _,.inl rfl⟩
 ·refine⟨_,n,cap,rfl,h1,hnc,hc,.inr ⟨g,off,rfl,fun j u hu=>?_⟩⟩;rw [hg.cell];exact hcs j u hu
theorem pv.below (h:pv w B e size v xs) (hb:Below B a w) (hB:B<=w.heap.size) (hg:w.grownBy w' v.ownBlock):Below B a w':=hb.grown hg hB (fun k O=>(h.blk k O).1)
theorem pv.apart {B2:Nat} {e2:TypeId} {size2:Nat} {v2:Value} {xs2:bK} (h:pv w B e size v xs) (h2:pv w B2 e2 size2 v2 xs2) (hne:e≠e2):v.ownBlock=none∨v.ownBlock≠v2.ownBlock:=by
 cases hv:v.ownBlock with
 | none=>exact .inl rfl
 | some k =>
  right;intro O;obtain⟨_,_,cs,hc⟩:=h.blk k hv;obtain⟨_,_,cs2,hc2⟩:=h2.blk k O.symm;exact hne (hc.ty hc2)
end
theorem pv.sl {α:Type} {enc:α->bK} {size:Nat} {w:World} {B:Nat} {e:TypeId} {v:Value} {l:List α} (he:∀ x,(enc x).length=size) (hs:0<size) (h:pv w B e size v (l.flatMap enc)) :
  Sl enc size w w.heap.size v l:=by
 rcases h with⟨rfl,h⟩|⟨g,off,n,cap,cs,rfl,h1,hb,hg,hnc,hc,hsz,hcs⟩
 ·have hl:=Bs he l;rw [h] at hl;have:l=[]:=by
   cases l with
   | nil=>rfl
   | cons x r=>simp [jL] at hl; omega
  subst this;exact Sl.nil_ 0 none (bY _)
 ·rw [Bs he] at h1;have hn:n=l.length:=(za hs h1).symm;subst hn;refine⟨_,cap,rfl,hnc,hc,.inr ⟨g,off,rfl,hg.lt,fun k x hx j u hu=>?_⟩⟩;have hj:j<size:=by rw [<- he x]; exact (cu.1 hu).1
  rw [hg.cell,y5];exact hcs _ u (by rw [GF he l k j x hx hj]; exact hu)
section
variable {P:Program}
theorem wc (w:World) (t ty e:TypeId) (i:TypeInfo) (ht:P.underlying t=some (.slice e)) (hi:P.info? e=some i) (A:Option Addr) (n cap c:Nat) (B:Option Addr) (hnc:n<=cap) :
  (Builtin.append_ #[t,t] ty #[.slice A n cap,.slice B 0 c]).run P w = .ok (.slice A n cap) w:=by
 cases A <;> cases B <;> simp [Builtin.append_,run_underlying ht,sizeOf,typeInfo,hi,Builtin.lenOf,Builtin.firstCells,hnc,storeCells,loadCells,loadCellsFrom]
theorem Dk (w:World) (t ty e:TypeId) (size bytes:Nat) (E:Nb P t e size bytes) (B:Nat) (v:Value) (xs:bK) (hown:pv w B e size v xs)
  (A:Option Addr) (m c:Nat) (news:bK) (hl:news.length=m*size) (hat:At w A news) (h1:∀ u∈news,u.oneCell'=true)
  (h63:xs.length+news.length<=maxLen) (hbytes:(xs.length+news.length)*bytes<=140737488355328) (hbase:B<=w.heap.size) :
  ∃ v' w',(Builtin.append_ #[t,t] ty #[v,.slice A m c]).run P w = .ok v' w'/\pv w' B e size v' (xs++news)/\w.grownBy w' v.ownBlock/\(v'.ownBlock=v.ownBlock∨v'.ownBlock=some w.heap.size):=by
 obtain⟨ht,⟨i,z,hi,hz,hsize,hby,hzs⟩,hpos⟩:=E;subst hsize hby;by_cases hm:m=0
 ·subst hm;have hn:news=[]:=DH (by simpa using hl);subst hn;rcases hown with⟨rfl,rfl⟩|⟨g,off,n,cap,cs,rfl,a1,hb,hg,hnc,hc,hsz,hcs⟩
  ·exact⟨_,w,wc w t ty e i ht hi none 0 0 c A (cm _),.inl ⟨rfl,rfl⟩,World.grownBy.refl w _,.inl rfl⟩
  ·exact⟨_,w,wc w t ty e i ht hi _ n cap c A hnc,.inr ⟨g,off,n,cap,cs,rfl,by simpa using a1,hb,hg,hnc,hc,hsz,by simpa using hcs⟩,World.grownBy.refl w _,.inl rfl⟩
 ·have hne:news≠[]:=by rintro rfl; rw [sg] at hl; rcases Nat.mul_eq_zero.1 hl.symm with h | h <;> omega
  obtain⟨sb,soff,rfl,hcell⟩:∃ b off,A=some ⟨b,off,none⟩/\∀ j u,news[j]? = some u->w.cell? ⟨b,off+j,none⟩=some u:=by
   rcases hat with h | h
   ·exact absurd h hne
   ·exact h
  have hcell':∀ j u,news[j]? = some u->w.cell? ((⟨sb,soff,none⟩:Addr).add j)=some u:=fun j u hu=>by rw [Addr.add_lit]; exact hcell j u hu
  have hmn:m<=news.length:=by rw [hl]; exact Nat.le_mul_of_pos_right _ hpos
  have grown:∀ (old n:Nat),old<n+m->xs.length=n*i.size->n+m<=xs.length+news.length ->
    pv (w.drew.alloc (.cells (xs.toArray++news.toArray++Builtin.zeroCells z.cells (grownCap w (n+m) old e-(n+m))) e)) B e i.size
     (.slice (some ⟨w.heap.size,0,none⟩) (n+m) (grownCap w (n+m) old e)) (xs++news):=by
   intro old n ho hx hle;have hge:=grownCap_ge w (n+m) old e;have hcm:grownCap w (n+m) old e<=maxLen:=grownCap_le_maxLen w (n+m) old e (by omega);refine .inr ⟨w.heap.size,0,n+m,_,_,rfl,by rw [bk,hx,hl,jL],hbase,.of (heap_alloc_new w.drew _),hge,hcm,?_,?_⟩
   ·simp only [Array.size_append,F9,size_zeroCells,hzs,hx,hl,<- jL];rw [pa];exact nY _ (by omega)
   ·intro j u hu;rw [pa,Ou (by
     have:=(cu.1 hu).1;simpa using this)]
    simpa using hu
  rcases hown with⟨rfl,rfl⟩|⟨g,off,n,cap,cs,rfl,a1,hb,hg,hnc,hc,hsz,hcs⟩
  ·have hr:=run_append_nil (P:=P) w t ty e i z ht hi hz ⟨sb,soff,none⟩ m c news hl hcell' (by omega) (by simp only [maxLen] at h63; simp at h63; omega)
    (by
     have h2:m*i.bytes<=news.length*i.bytes:=nY _ hmn;simp only [sg,pa] at hbytes;omega)
   have hgr:=grown 0 0 (by omega) (by simp) (by simp; omega);simp only [pa,qU,Array.empty_append] at hgr;exact⟨_,_,hr,hgr,⟨rfl,rfl,rfl,by simp,fun k O _=>Below.heap_alloc w.drew _ k O⟩,.inr rfl⟩
  ·have hnx:n<=xs.length:=by rw [a1]; exact Nat.le_mul_of_pos_right _ hpos
   by_cases hroom:n+m<=cap
   ·have hfit:off+n*i.size+news.length<=cs.size:=by
     have:(n+m)*i.size<=cap*i.size:=nY _ hroom;rw [hl]; rw [jL] at this; omega
    have hr:=run_append_room_cells (P:=P) w t ty e i ht hi g off n cap ⟨sb,soff,none⟩ m c news hl hcell' h1 hroom
     (fun j hj=>by rw [hg.cell,BT (by omega)]; rfl)
     (fun j hj=>hg.free (by omega))
    obtain⟨fz,hg0,hfz⟩:=id hg;obtain⟨cs',c1,c2,c3,c4⟩:=nq g e fz news (off+n*i.size) w cs hg0;refine⟨_,_,hr,.inr ⟨g,off,n+m,cap,cs',rfl,by rw [bk,a1,hl,jL],hb,⟨fz,c1,by rw [c2]; exact hfz⟩,hroom,hc,by rw [c2]; exact hsz,fun j u hu=>?_⟩,w6 w g _ news,.inl rfl⟩;by_cases hj:j<xs.length
    ·rw [se hj] at hu;rw [c3 _ (by omega)];exact hcs j u hu
    ·rw [ua (by omega)] at hu;have:=c4 hfit (j-xs.length) u hu;rwa [show off+n*i.size+(j-xs.length)=off+j by omega] at this
   ·have hr:=run_append_grow (P:=P) w t ty e i z ht hi hz ⟨g,off,none⟩ n cap xs a1 (fun j u hu=>by rw [Addr.add_lit,hg.cell]; exact hcs j u hu)
     ⟨sb,soff,none⟩ m c news hl hcell' (by omega) (by simp only [maxLen] at h63; omega)
     (growslice_fits (by omega) (by
      have h2:(n+m)*i.bytes<=(xs.length+news.length)*i.bytes:=nY _ (by omega);omega))
    have hgr:=grown cap n (by omega) a1 (by omega);exact⟨_,_,hr,hgr,⟨rfl,rfl,rfl,by simp,fun k O _=>Below.heap_alloc w.drew _ k O⟩,.inr rfl⟩
theorem yf (w:World) {o:Oper} {a:Act} {K:Act->World->Prop} {Q:Exit->Act->World->Prop} (s x:Operand) (t:TypeId)
  (ho:o.op = .call { callee:=.builtin .append,args:=#[s,x],argTypes:=#[t,t] })
  (e:TypeId) (size bytes:Nat) (E:Nb P t e size bytes) (B:Nat) (v:Value) (xs:bK) (hs:a.eval s=v) (hown:pv w B e size v xs)
  (A:Option Addr) (m c:Nat) (news:bK) (hx:a.eval x = .slice A m c) (hl:news.length=m*size) (hat:At w A news) (h1:∀ u∈news,u.oneCell'=true)
  (h63:xs.length+news.length<=maxLen) (hbytes:(xs.length+news.length)*bytes<=140737488355328) (hbase:B<=w.heap.size)
  (h:∀ v' w',pv w' B e size v' (xs++news)->w.grownBy w' v.ownBlock->(v'.ownBlock=v.ownBlock∨v'.ownBlock=some w.heap.size)->K (a.put o.dst v') w'):o.wp P a w K Q:=by
 obtain⟨v',w',hrun,h2,h3,h4⟩:=Dk (P:=P) w t o.type e size bytes E B v xs hown A m c news hl hat h1 h63 hbytes hbase;unfold Oper.wp execOp;simp only [ho,resolve,invoke,builtin,Sem.run_bind,Sem.run_pure,Result.andThen_ok,JS,yk,HF,hs,hx,hrun];exact h v' w' h2 h3 h4
end
def La (w:World):Type:={ w':World // Below w.heap.size w w' }
instance La.some_ (w:World):Nonempty (La w):=⟨⟨w,Below.refl _ _⟩⟩
def La.w {w:World} (x:La w):World:=x.1
theorem La.below {w:World} (x:La w):Below w.heap.size w x.w:=x.2
theorem La.cell {w:World} (x:La w) {p:Addr} {v:Value} (h:w.cell? p=some v):x.w.cell? p=some v:=(x.below.cell (World.block_lt_of_cell? w p h)).trans h
theorem La.sl {α:Type} {enc:α->bK} {size:Nat} {w:World} {v:Value} {xs:List α} (x:La w) (h:Sl enc size w w.heap.size v xs):Sl enc size x.w x.w.heap.size v xs:=h.later x.below
theorem La.call {P:Program} {f:FuncId} {args:Array Value} {w:World} {x:La w} {v:Value}
  (h:Calls P f args x.w fun e w''=>e = .returned v/\Below x.w.heap.size x.w w''):Calls P f args x.w fun e w''=>e = .returned v/\∃ y:La w,w''=y.w :=
 h.mono fun _ w'' ⟨he,hb⟩=>⟨he,⟨w'',HU x.below hb⟩,rfl⟩
theorem La.same {P:Program} {f:FuncId} {args:Array Value} {w:World} {x:La w} {v:Value}
  (h:Calls P f args x.w fun e w''=>e = .returned v/\x.w=w''):Calls P f args x.w fun e w''=>e = .returned v/\∃ y:La w,w''=y.w :=
 h.mono fun _ _ ⟨he,hb⟩=>⟨he,x,hb.symm⟩
end
section
open Go.RowKit
variable {T T':Nat->Prop} {cl cs:bK} {v:Value} {w w':World} {α:Type} {x:α} {xs:List α}
structure Kt (T:Nat->Prop) (w w':World):Prop where
 os:w'.os=w.os
 tape:w'.tape=w.tape
 output:w'.output=w.output
 size:w.heap.size<=w'.heap.size
 block:∀ k,k<w.heap.size->¬ T k->w'.heap[k]? = w.heap[k]?
def No:Nat->Prop:=fun _=>False
theorem aj (T:Nat->Prop) (w:World):Kt T w w:=⟨rfl,rfl,rfl,cm _,fun _ _ _=>rfl⟩
theorem Kt.trans {a b c:World} (h:Kt T a b) (k:Kt T b c):Kt T a c :=
 ⟨k.os.trans h.os,k.tape.trans h.tape,k.output.trans h.output,cN h.size k.size,fun i hi hn=>(k.block i (xg hi h.size) hn).trans (h.block i hi hn)⟩
theorem Kt.mono (h:Kt T w w') (hT:∀ k,T k->T' k):Kt T' w w':=⟨h.os,h.tape,h.output,h.size,fun k O hn=>h.block k O (fun ht=>hn (hT k ht))⟩
theorem Kt.no (h:Kt No w w'):Kt T w w':=h.mono fun _ h=>h.elim
theorem Kt.step {M:Nat->Prop} {a b c:World} (h:Kt M a b) (k:Kt T b c) (hT:∀ k,T k->M k∨a.heap.size<=k):Kt M a c :=
 ⟨k.os.trans h.os,k.tape.trans h.tape,k.output.trans h.output,cN h.size k.size,fun i hi hn=>(k.block i (xg hi h.size) (fun ht=>by rcases hT i ht with h1 | h1; exact hn h1; omega)).trans (h.block i hi hn)⟩
theorem Kt.below (h:Kt No w w'):Below w.heap.size w w':=⟨h.os,h.tape,h.output,h.size,fun k O=>h.block k O (fun h=>h)⟩
theorem Kt.ofBelow (h:Below w.heap.size w w'):Kt No w w':=⟨h.os,h.tape,h.output,h.size,fun k O _=>h.block k O⟩
theorem Kt.drew (w:World):Kt No w w.drew:=⟨rfl,rfl,rfl,cm _,fun _ _ _=>rfl⟩
theorem Kt.drewN (w:World) (n:Nat):Kt No w (w.drewN n):=⟨rfl,rfl,rfl,cm _,fun _ _ _=>rfl⟩
theorem Kt.alloc (w:World) (o:Obj):Kt No w (w.alloc o):=⟨rfl,rfl,rfl,by simp,fun k O _=>Below.heap_alloc w o k O⟩
theorem Kt.setCell (w:World) (p:Addr) (v:Value):Kt (fun k=>k=p.block) w (w.setCell p v) :=
 ⟨rfl,rfl,rfl,by simp [World.setCell],fun k _ hn=>Below.heap_setCell w p v k hn⟩
theorem Kt.setCells (w:World) (g o:Nat) (vs:bK):Kt (fun k=>k=g) w (w.setCells g o vs) :=
 ⟨(kr g vs o w).1,(kr g vs o w).2.1,(kr g vs o w).2.2,by rw [ut]; exact cm _,fun k _ hn=>vM g vs o w k hn⟩
theorem Kt.grown {row:Option Nat} (h:w.grownBy w' row):Kt (fun k=>row=some k) w w' :=
 ⟨h.os,h.tape,h.output,h.size,fun k O hn=>h.block k O (fun e=>hn e.symm)⟩
theorem Kt.cell (h:Kt T w w') {p:Addr} (hl:p.block<w.heap.size) (hn:¬ T p.block):w'.cell? p=w.cell? p:=World.cell?_of_block (w:=w) (h.block _ hl hn)
def Nw (T T':Nat->Prop) (w:World):Prop:=∀ k,T' k->T k∨w.heap.size<=k
theorem Nw.refl (T:Nat->Prop) (w:World):Nw T T w:=fun _ h=>.inl h
structure cL where
 p:(Nat->Prop)->World->Prop
 keep:∀ {T T':Nat->Prop} {w w':World},p T w->Kt T w w'->Nw T T' w->p T' w'
structure aO (α:Type) where
 size:Nat
 rel:(Nat->Prop)->World->bK->α->Prop
 len:∀ {T w cs x},rel T w cs x->cs.length=size
 one:∀ {T w cs x},rel T w cs x->∀ u∈cs,u.oneCell'=true
 keep:∀ {T T':Nat->Prop} {w w':World} {cs x},rel T w cs x->Kt T w w'->Nw T T' w->rel T' w' cs x
def pu (T:Nat->Prop) (w:World) (b o:Nat) (cs:bK):Prop:=¬ T b/\b<w.heap.size/\∀ j u,cs[j]? = some u->w.cell? ⟨b,o+j,none⟩=some u
theorem pu.keep {b o:Nat} (h:pu T w b o cs) (k:Kt T w w') (hn:Nw T T' w):pu T' w' b o cs :=
 ⟨fun ht=>by rcases hn b ht with h1 | h1; exact h.1 h1; have:=h.2.1; omega,xg h.2.1 k.size,fun j u hu=>(k.cell (p:=⟨b,o+j,none⟩) h.2.1 h.1).trans (h.2.2 j u hu)⟩
def fb (b o:Nat) (cs:bK):cL:=⟨fun T w=>pu T w b o cs,fun h k n=>h.keep k n⟩
theorem pu.sub {b o:Nat} {ds:bK} (k:Nat) (h:pu T w b o cs) (hd:∀ j u,ds[j]? = some u->cs[k+j]? = some u):pu T w b (o+k) ds :=
 ⟨h.1,h.2.1,fun j u hu=>by have:=h.2.2 (k+j) u (hd j u hu); rwa [<- y5] at this⟩
def aI (R:aO α) (T:Nat->Prop) (w:World) (v:Value) (xs:List α):Prop :=
 ∃ A c,v = .slice A xs.length c/\xs.length<=c/\c<=maxLen /\
  (xs=[]∨∃ b off,A=some ⟨b,off,none⟩/\∀ k x,xs[k]? = some x->∃ cs,R.rel T w cs x/\pu T w b (off+k*R.size) cs)
theorem aI.keep {R:aO α} (h:aI R T w v xs) (k:Kt T w w') (hn:Nw T T' w):aI R T' w' v xs:=by
 obtain⟨A,c,e,h1,h2,h3⟩:=h;refine⟨A,c,e,h1,h2,?_⟩;rcases h3 with h3 | ⟨b,off,e2,hc⟩
 ·exact .inl h3
 ·refine .inr ⟨b,off,e2,fun i x hx=>?_⟩;obtain⟨cs,ha,hb⟩:=hc i x hx;exact⟨cs,R.keep ha k hn,hb.keep k hn⟩
theorem aI.sub {R:aO α} (h:aI R T w v xs) (hn:Nw T T' w):aI R T' w v xs:=h.keep (aj _ _) hn
theorem aI.nil_ (R:aO α) (T:Nat->Prop) (w:World):aI R T w (.slice none 0 0) []:=⟨none,0,rfl,cm _,bY _,.inl rfl⟩
theorem aI.one {R:aO α} (h:aI R T w v xs):v.oneCell'=true:=by obtain⟨A,c,rfl,_⟩:=h; rfl
def aT (R:aO α) (v:Value) (xs:List α):cL:=⟨fun T w=>aI R T w v xs,fun h k n=>h.keep k n⟩
theorem aI.len {R:aO α} (h:aI R T w v xs):∃ A c,v = .slice A xs.length c/\xs.length<=c/\c<=maxLen:=by obtain⟨A,c,e,h1,h2,_⟩:=h; exact⟨A,c,e,h1,h2⟩
def bO (xs:List α) (i:Int):Option α:=if 0<=i then xs[i.toNat]? else none
theorem ja {i:Int} (h:bO xs i=some x):0<=i/\i<xs.length/\xs[i.toNat]? = some x:=by
 unfold bO at h;split at h
 ·have:=(cu.1 h).1;exact⟨by omega,by omega,h⟩
 ·cases h
def aO.slice (R:aO α):aO (List α) where
 size:=1
 rel:=fun T w cs xs=>∃ v,cs=[v]/\aI R T w v xs
 len:=by rintro _ _ _ _ ⟨v,rfl,_⟩; rfl
 one:=by rintro _ _ _ _ ⟨v,rfl,h⟩ u hu; simp only [dX,fu,or_false] at hu; subst hu; exact h.one
 keep:=by rintro _ _ _ _ _ _ ⟨v,rfl,h⟩ k n; exact⟨v,rfl,h.keep k n⟩
def aO.int (k:IntKind):aO Int where
 size:=1
 rel:=fun _ _ cs x=>cs=[.int k x]
 len:=by rintro _ _ _ _ rfl; rfl
 one:=by rintro _ _ _ _ rfl u hu; simp only [dX,fu,or_false] at hu; subst hu; rfl
 keep:=fun h _ _=>h
def aO.bool:aO Bool where
 size:=1
 rel:=fun _ _ cs x=>cs=[.bool x]
 len:=by rintro _ _ _ _ rfl; rfl
 one:=by rintro _ _ _ _ rfl u hu; simp only [dX,fu,or_false] at hu; subst hu; rfl
 keep:=fun h _ _=>h
def aO.str:aO ByteArray where
 size:=1
 rel:=fun _ _ cs x=>cs=[.string x]
 len:=by rintro _ _ _ _ rfl; rfl
 one:=by rintro _ _ _ _ rfl u hu; simp only [dX,fu,or_false] at hu; subst hu; rfl
 keep:=fun h _ _=>h
def aO.prod {β:Type} (R:aO α) (S:aO β):aO (α×β) where
 size:=R.size+S.size
 rel:=fun T w cs x=>∃ c d,cs=c++d/\R.rel T w c x.1/\S.rel T w d x.2
 len:=by rintro _ _ _ _ ⟨c,d,rfl,h1,h2⟩; rw [bk,R.len h1,S.len h2]
 one:=by rintro _ _ _ _ ⟨c,d,rfl,h1,h2⟩ u hu; rcases dw.1 hu with h | h; exact R.one h1 u h; exact S.one h2 u h
 keep:=by rintro _ _ _ _ _ _ ⟨c,d,rfl,h1,h2⟩ k n; exact⟨c,d,rfl,R.keep h1 k n,S.keep h2 k n⟩
def aO.via {β:Type} (R:aO α) (f:β->α):aO β where
 size:=R.size
 rel:=fun T w cs x=>R.rel T w cs (f x)
 len:=fun h=>R.len h
 one:=fun h=>R.one h
 keep:=fun h k n=>R.keep h k n
def aY (R:aO α) (T:Nat->Prop) (w:World) (cl:bK) (xs:List α):Prop:=cl.length=xs.length*R.size/\∀ k x,xs[k]? = some x->∃ cs,R.rel T w cs x/\∀ j u,cs[j]? = some u->cl[k*R.size+j]? = some u
theorem aY.keep {R:aO α} (h:aY R T w cl xs) (k:Kt T w w') (hn:Nw T T' w):aY R T' w' cl xs :=
 ⟨h.1,fun i x hx=>by obtain⟨cs,h1,h2⟩:=h.2 i x hx; exact⟨cs,R.keep h1 k hn,h2⟩⟩
def ap (R:aO α) (cl:bK) (xs:List α):cL:=⟨fun T w=>aY R T w cl xs,fun h k n=>h.keep k n⟩
theorem aY.nil_ (R:aO α) (T:Nat->Prop) (w:World):aY R T w [] []:=⟨by simp,fun k x hx=>by simp at hx⟩
theorem aY.append {R:aO α} {dl:bK} {ys:List α} (h:aY R T w cl xs) (k:aY R T w dl ys):aY R T w (cl++dl) (xs++ys):=by
 refine⟨by rw [bk,bk,h.1,k.1,jL],fun i x hx=>?_⟩;by_cases hi:i<xs.length
 ·rw [se hi] at hx;obtain⟨cs,h1,h2⟩:=h.2 i x hx;refine⟨cs,h1,fun j u hu=>?_⟩;have:=h2 j u hu;rw [se (cu.1 this).1]; exact this
 ·rw [ua (by omega)] at hx;obtain⟨cs,h1,h2⟩:=k.2 _ x hx;refine⟨cs,h1,fun j u hu=>?_⟩;have:=h2 j u hu;have he:xs.length*R.size+((i-xs.length)*R.size+j)=i*R.size+j:=by
   rw [<- y5,<- jL]; congr 2; omega
  rw [ua (by rw [h.1,<- he]; omega),h.1,<- he,Nat.add_sub_cancel_left];exact this
theorem aJ {R:aO α} (h:R.rel T w cs x):aY R T w cs [x]:=by
 refine⟨by rw [R.len h]; simp,fun k y hy=>?_⟩;cases k with
 | zero=>simp only [E7,cp] at hy; subst hy; exact⟨cs,h,fun j u hu=>by rw [Nat.zero_mul,pa]; exact hu⟩
 | succ k=>simp at hy
theorem aY.cell {R:aO α} (hs:0<R.size) (h:aY R T w cl xs):∀ u∈cl,u.oneCell'=true:=by
 intro u hu;obtain⟨i,hi,e⟩:=JR hu;have O:i / R.size<xs.length:=by rw [Nat.div_lt_iff_lt_mul hs,<- h.1]; exact hi
 obtain⟨cs,h1,h2⟩:=h.2 _ _ (cH O);have hl:=R.len h1;have hj:i % R.size<cs.length:=by rw [hl]; exact Nat.mod_lt _ hs
 have:=h2 _ _ (cH hj);rw [Nat.div_add_mod' i R.size,cH hi,e] at this;injection this with this;rw [this];exact R.one h1 _ (iK hj)
theorem pv.rd {R:aO α} {B:Nat} {e:TypeId} (hs:0<R.size) (h:pv w B e R.size v cl) (hr:aY R T w cl xs) (hT:∀ k,v.ownBlock=some k->¬ T k):aI R T w v xs:=by
 rcases h with⟨rfl,rfl⟩|⟨g,off,n,cap,cs,rfl,h1,hb,hg,hnc,hc,hsz,hcs⟩
 ·have hl:=hr.1;have:xs=[]:=by
   cases xs with
   | nil=>rfl
   | cons x r=>simp [jL] at hl; omega
  subst this;exact aI.nil_ _ _ _
 ·have hn:n=xs.length:=za hs (h1.symm.trans hr.1);subst hn;refine⟨_,cap,rfl,hnc,hc,.inr ⟨g,off,rfl,fun k x hx=>?_⟩⟩;obtain⟨ds,h2,h3⟩:=hr.2 k x hx;refine⟨ds,h2,hT g rfl,hg.lt,fun j u hu=>?_⟩;rw [hg.cell,y5];exact hcs _ u (h3 j u hu)
theorem aI.rows {R:aO α} {A:Option Addr} {n c:Nat} (hs:0<R.size) (h:aI R T w (.slice A n c) xs):n=xs.length/\∃ cl,At w A cl/\aY R T w cl xs:=by
 obtain⟨A',c',e,h1,h2,h3⟩:=h;injection e with e1 e2 e3;subst e1 e2 e3;refine⟨rfl,?_⟩;rcases h3 with rfl | ⟨b,off,rfl,hc⟩
 ·exact⟨[],.inl rfl,aY.nil_ _ _ _⟩
 ·have key:∀ (ys:List α) (o:Nat),(∀ k x,ys[k]? = some x->∃ cs,R.rel T w cs x/\pu T w b (o+k*R.size) cs)->∃ cl:bK,(∀ j u,cl[j]? = some u->w.cell? ⟨b,o+j,none⟩=some u)/\aY R T w cl ys:=by
   intro ys
   induction ys with
   | nil=>intro o _; exact⟨[],fun j u hu=>by simp at hu,aY.nil_ _ _ _⟩
   | cons y r ih =>
    intro o ho;obtain⟨cs,g1,g2⟩:=ho 0 y rfl;obtain⟨cl,g3,g4⟩:=ih (o+R.size) (fun k x hx=>by
     obtain⟨ds,g5,g6⟩:=ho (k+1) x (by simpa using hx);exact⟨ds,g5,by rwa [show o+(k+1)*R.size=o+R.size+k*R.size by rw [jL]; omega] at g6⟩)
    refine⟨cs++cl,fun j u hu=>?_,(aJ g1).append g4⟩;have hl:=R.len g1;by_cases hj:j<cs.length
    ·rw [se hj] at hu;have:=g2.2.2 j u hu;rwa [Nat.zero_mul,qi] at this
    ·rw [ua (by omega)] at hu;have:=g3 _ u hu;rwa [show o+R.size+(j-cs.length)=o+j by omega] at this
  obtain⟨cl,g1,g2⟩:=key xs off hc;exact⟨cl,.inr ⟨b,off,rfl,g1⟩,g2⟩
theorem aI.get {R:aO α} (h:aI R T w v xs) {i:Int} (hx:bO xs i=some x) :
  ∃ b o c,v = .slice (some ⟨b,o,none⟩) xs.length c/\xs.length<=c/\∃ cs,R.rel T w cs x/\pu T w b (o+i.toNat*R.size) cs:=by
 obtain⟨hi0,hi1,hi2⟩:=ja hx;obtain⟨A,c,rfl,h1,h2,h3⟩:=h;rcases h3 with h3 | ⟨b,off,rfl,hc⟩
 ·subst h3; simp at hi1; omega
 ·exact⟨b,off,c,rfl,h1,hc _ _ hi2⟩
end
section
open Go.RowKit
theorem P9 {a b:Nat} (h:¬ a=b):Nat.beq a b=false:=by
 cases hb:Nat.beq a b
 ·rfl
 ·exact absurd (xf hb) h
def lk:List (Nat×Value)->Nat->Option Value
 | [],_=>none
 | p::r,t=>cond (Nat.beq p.1 t) (some p.2) (lk r t)
structure DP where
 v:Value
 e:TypeId
 sz:Nat
 cl:bK
def DP.ok (w:World) (o:DP):Prop:=pv w 0 o.e o.sz o.v o.cl/\0<o.sz
inductive cS where
 | grp (inn:List DP)
 | box (b:Nat) (cs:bK) (t:TypeId)
 | own (v:Value) (e:TypeId) (sz:Nat) (cl:bK)
 | obj (b:Nat) (o:Obj)
def cS.dom:cS->Nat->Prop
 | .box b _ _=>fun k=>some b=some k
 | .own v _ _ _=>fun k=>v.ownBlock=some k
 | .obj b _=>fun k=>some b=some k
 | .grp inn=>fun k=>∃ o∈inn,o.v.ownBlock=some k
def cS.bare:cS->Bool
 | .own (.slice none _ _) _ _ _=>true
 | _=>false
def cS.ok (w:World):cS->Prop
 | .box b cs t=>w.heap[b]? = some (.cells cs.toArray t (0,0))
 | .own v e sz cl=>pv w 0 e sz v cl/\0<sz
 | .obj b o=>w.heap[b]? = some o
 | .grp inn=>(∀ o∈inn,o.ok w)/\inn.Pairwise fun r s=>∀ k,r.v.ownBlock=some k->s.v.ownBlock≠some k
theorem cS.bare_no {r:cS} (h:r.bare=true):∀ k,¬ r.dom k:=by
 intro k O;unfold cS.bare at h;split at h
 ·cases O
 ·cases h
theorem DP.lt {w:World} {o:DP} (h:o.ok w) {k:Nat} (O:o.v.ownBlock=some k):k<w.heap.size:=(h.1.blk k O).2.1
theorem DP.keep {w w':World} {o:DP} (h:o.ok w) (O:∀ k,o.v.ownBlock=some k->w'.heap[k]? = w.heap[k]?):o.ok w':=by
 obtain⟨h1,h2⟩:=h;refine⟨?_,h2⟩;rcases h1 with h1 | ⟨g,off,n,cap,cs,q0,q1,q2,q3,rest⟩
 ·exact .inl h1
 ·exact .inr ⟨g,off,n,cap,cs,q0,q1,q2,q3.eqb (O g (by rw [q0]; rfl)),rest⟩
def dT (T:Nat->Prop) (D:List cS):Nat->Prop:=fun k=>T k∨∃ r∈D,r.dom k
theorem cS.lt {w:World} {r:cS} (h:r.ok w):∀ k,r.dom k->k<w.heap.size:=by
 intro k O;cases r with
 | box b cs t=>simp only [cS.dom,cp] at O; subst O; exact (Ef.1 h).1
 | own v e sz cl=>exact (h.1.blk k O).2.1
 | obj b o=>simp only [cS.dom,cp] at O; subst O; exact (Ef.1 h).1
 | grp inn=>obtain⟨o,ho,O⟩:=O; exact DP.lt (h.1 o ho) O
theorem cS.keep {w w':World} {r:cS} (h:r.ok w) (O:∀ k,r.dom k->w'.heap[k]? = w.heap[k]?):r.ok w':=by
 cases r with
 | box b cs t=>exact (O b rfl).trans h
 | obj b o=>exact (O b rfl).trans h
 | grp inn=>exact⟨fun o ho=>DP.keep (h.1 o ho) fun k hk2=>O k ⟨o,ho,hk2⟩,h.2⟩
 | own v e sz cl =>
  obtain⟨h1,h2⟩:=h;refine⟨?_,h2⟩;rcases h1 with h1 | ⟨g,off,n,cap,cs,rfl,q1,q2,q3,rest⟩
  ·exact .inl h1
  ·exact .inr ⟨g,off,n,cap,cs,rfl,q1,q2,q3.eqb (O g rfl),rest⟩
structure St (W:World) (M T:Nat->Prop) (n:Nat) (G:List (Nat×Value)) (D:List cS) (F:List cL) (a:Act) (w:World):Prop where
 size:a.tmps.size=n
 defers:a.defers=[]
 slots:∀ t v,lk G t=some v->a.tmps[t]? = some v
 base:Kt M W w
 own:∀ r∈D,r.ok w
 free:∀ r∈D,∀ k,r.dom k->¬ T k/\(M k∨W.heap.size<=k)
 apart:D.Pairwise fun r s=>∀ k,r.dom k->¬ s.dom k
 facts:∀ f∈F,f.p (dT T D) w
 tlt:∀ k,T k->k<w.heap.size
section
variable {W:World} {M T:Nat->Prop} {n:Nat} {G G':List (Nat×Value)} {D D':List cS} {F F':List cL} {a:Act} {w w':World}
theorem St.dlt (h:St W M T n G D F a w):∀ k,dT T D k->k<w.heap.size:=by
 rintro k (O | ⟨r,hr,O⟩)
 ·exact h.tlt k O
 ·exact cS.lt (h.own r hr) k O
theorem St.put (h:St W M T n G D F a w) {d:Nat} (hd:Nat.blt d n=true) (v:Value):St W M T n ((d,v)::G) D F (a.put (some d) v) w:=by
 have hd:d<n:=cw hd;refine⟨by simpa [Act.put] using h.size,h.defers,fun t u hu=>?_,h.base,h.own,h.free,h.apart,h.facts,h.tlt⟩;simp only [lk] at hu;by_cases e:d=t
 ·subst e;rw [show Nat.beq d d=true from by simp] at hu;simp only [cond_true,cp] at hu;subst hu;simp [Act.put,h.size,hd]
 ·rw [P9 e] at hu;have:=h.slots t u hu;simp only [Act.put];rw [Array.getElem?_setIfInBounds_ne e]; exact this
theorem St.fact (h:St W M T n G D F a w) (f:cL) (hf:f.p (dT T D) w):St W M T n G D (f::F) a w :=
 ⟨h.size,h.defers,h.slots,h.base,h.own,h.free,h.apart,fun g hg=>by rcases dX.1 hg with rfl | hg; exact hf; exact h.facts g hg,h.tlt⟩
theorem St.get (h:St W M T n G D F a w) (i:Nat) {f:cL} (hi:F[i]? = some f):f.p (dT T D) w:=h.facts f (aD hi)
theorem St.later (h:St W M T n G D F a w) (k:Kt No w w'):St W M T n G D F a w' :=
 ⟨h.size,h.defers,h.slots,h.base.step k (fun _ h=>h.elim),fun r hr=>cS.keep (h.own r hr) fun j hj=>k.block j (cS.lt (h.own r hr) j hj) (fun h=>h),h.free,h.apart,
  fun f hf=>f.keep (h.facts f hf) k.no (Nw.refl _ _),fun j hj=>xg (h.tlt j hj) k.size⟩
theorem I3 {T:Nat->Prop} {D:List cS} {r:cS} {k:Nat}:dT T (r::D) k↔dT T D k∨r.dom k:=by
 unfold dT;simp only [dX,exists_eq_or_imp];constructor
 ·rintro (h | h | h)
  ·exact .inl (.inl h)
  ·exact .inr h
  ·exact .inl (.inr h)
 ·rintro ((h | h) | h)
  ·exact .inl h
  ·exact .inr (.inr h)
  ·exact .inr (.inl h)
theorem St.add (h:St W M T n G D F a w) (k:Kt No w w') (r:cS) (hr:r.ok w') (hn:∀ k,r.dom k->w.heap.size<=k):St W M T n G (r::D) F a w':=by
 have h':=h.later k;refine⟨h'.size,h'.defers,h'.slots,h'.base,?_,?_,?_,fun f hf=>f.keep (h.facts f hf) k.no (fun j hj=>?_),h'.tlt⟩
 ·intro s hs;rcases dX.1 hs with rfl | hs
  ·exact hr
  ·exact h'.own s hs
 ·intro s hs j hj;rcases dX.1 hs with rfl | hs
  ·have:=hn j hj;refine⟨fun ht=>?_,.inr ?_⟩
   ·have:=h.tlt j ht; omega
   ·have:=h.base.size; omega
  ·exact h'.free s hs j hj
 ·refine vT.2 ⟨fun s hs j hj hj2=>?_,h.apart⟩;have:=hn j hj;have:=cS.lt (h.own s hs) j hj2;omega
 ·rcases I3.1 hj with h1 | h1
  ·exact .inl h1
  ·exact .inr (hn j h1)
theorem St.alloc (h:St W M T n G D F a w) (cs:bK) (t:TypeId):St W M T n G (.box w.heap.size cs t::D) F a (w.alloc (.cells cs.toArray t)) :=
 h.add (Kt.alloc _ _) _ (heap_alloc_new w _) (fun k O=>by simp only [cS.dom,cp] at O; omega)
theorem St.turn (h:St W M T n G D F a w) {i:Nat} {r r':cS} (hi:D[i]? = some r) (k:Kt (fun j=>r.dom j) w w') (hr:r'.ok w') (hd:∀ j,r'.dom j->r.dom j∨w.heap.size<=j) :
  St W M T n G (D.set i r') F a w':=by
 have hmem:=aD hi;have hlt:=(cu.1 hi).1;have hne:∀ j s,j≠i->D[j]? = some s->∀ q,s.dom q->¬ r.dom q:=by
  intro j s hj hs q hq hq2;have hjl:=(cu.1 hs).1;have e1:=(cu.1 hs).2;have e2:=(cu.1 hi).2;rcases y7 hj with hji | hji
  ·have:=gC.1 h.apart j i hjl hlt hji q (by rw [e1]; exact hq);rw [e2] at this; exact this hq2
  ·have:=gC.1 h.apart i j hlt hjl hji q (by rw [e2]; exact hq2);rw [e1] at this; exact this hq
 have si:∀ s,s∈D.set i r'->s=r'∨∃ j,j≠i/\D[j]? = some s:=by
  intro s hs;obtain⟨j,hj,e⟩:=JR hs;by_cases hji:i=j
  ·subst hji; rw [List.getElem_set_self] at e; exact .inl e.symm
  ·rw [HB hji] at e;exact .inr ⟨j,fun e=>hji e.symm,by rw [<- e]; exact cH _⟩
 refine⟨h.size,h.defers,h.slots,h.base.step k (fun j hj=>(h.free r hmem j hj).2),?_,?_,?_,fun f hf=>f.keep (h.facts f hf) (k.mono fun j hj=>.inr ⟨r,hmem,hj⟩) (fun j hj=>?_),fun j hj=>xg (h.tlt j hj) k.size⟩
 ·intro s hs;rcases si s hs with rfl | ⟨j,hj,hs⟩
  ·exact hr
  ·have ho:=h.own s (aD hs);exact cS.keep ho fun q hq=>k.block q (cS.lt ho q hq) (hne j s hj hs q hq)
 ·intro s hs q hq;rcases si s hs with rfl | ⟨j,hj,hs⟩
  ·rcases hd q hq with h1 | h1
   ·exact h.free r hmem q h1
   ·refine⟨fun ht=>?_,.inr ?_⟩
    ·have:=h.tlt q ht; omega
    ·have:=h.base.size; omega
  ·exact h.free s (aD hs) q hq
 ·rw [gC];intro x y hx hy hxy q hq hq2;have hx':x<D.length:=by simpa using hx
  have hy':y<D.length:=by simpa using hy
  have old:∀ z (hz:z<D.length),D[z].dom q->q<w.heap.size:=fun z hz e=>cS.lt (h.own _ (iK hz)) q e;by_cases h1:i=x
  ·subst h1;rw [List.getElem_set_self] at hq;rw [HB (by omega)] at hq2;rcases hd q hq with h2 | h2
   ·exact hne y _ (by omega) (cH hy') q hq2 h2
   ·have:=old y hy' hq2; omega
  ·by_cases h2:i=y
   ·subst h2;rw [List.getElem_set_self] at hq2;rw [HB h1] at hq;rcases hd q hq2 with h3 | h3
    ·exact hne x _ (by omega) (cH hx') q hq h3
    ·have:=old x hx' hq; omega
   ·rw [HB h1] at hq;rw [HB h2] at hq2;exact gC.1 h.apart x y hx' hy' hxy q hq hq2
 ·rcases hj with hj | ⟨s,hs,hj⟩
  ·exact .inl (.inl hj)
  ·rcases si s hs with rfl | ⟨z,hz,hs⟩
   ·rcases hd j hj with h1 | h1
    ·exact .inl (.inr ⟨r,hmem,h1⟩)
    ·exact .inr h1
   ·exact .inl (.inr ⟨s,aD hs,hj⟩)
theorem St.res (h:St W M T n G D F a w) {D':List cS} (hs:∀ r∈D',r∈D) (hp:D'.Pairwise fun r s=>∀ k,r.dom k->¬ s.dom k):St W M T n G D' F a w :=
 ⟨h.size,h.defers,h.slots,h.base,fun r hr=>h.own r (hs r hr),fun r hr=>h.free r (hs r hr),hp,fun f hf=>f.keep (h.facts f hf) (aj _ _) (fun k O=>.inl (by
  rcases O with O | ⟨r,hr,O⟩
  ·exact .inl O
  ·exact .inr ⟨r,hs r hr,O⟩)),h.tlt⟩
theorem St.drop (h:St W M T n G D F a w) (i:Nat):St W M T n G (D.eraseIdx i) F a w :=
 h.res (fun r hr=>IG hr) (h.apart.sublist (List.eraseIdx_sublist _ _))
def OA (G:List (Nat×Value)):List (Nat×Value)->Prop
 | []=>True
 | p::r=>lk G p.1=some p.2/\OA G r
theorem OA.lk_ {G:List (Nat×Value)}:∀ {G':List (Nat×Value)},OA G G'->∀ t v,lk G' t=some v->lk G t=some v
 | [],_,t,v,hv=>by simp [lk] at hv
 | p::r,h,t,v,hv=>by
  simp only [lk] at hv;by_cases e:p.1=t
  ·subst e;rw [show Nat.beq p.1 p.1=true from by simp] at hv;simp only [cond_true,cp] at hv;subst hv; exact h.1
  ·rw [P9 e] at hv;exact OA.lk_ h.2 t v hv
theorem St.slot (h:St W M T n G D F a w) (hs:OA G G'):St W M T n G' D F a w :=
 ⟨h.size,h.defers,fun t v hv=>h.slots t v (hs.lk_ t v hv),h.base,h.own,h.free,h.apart,h.facts,h.tlt⟩
theorem St.sel (h:St W M T n G D F a w) (hs:∀ f∈F',f∈F):St W M T n G D F' a w :=
 ⟨h.size,h.defers,h.slots,h.base,h.own,h.free,h.apart,fun f hf=>h.facts f (hs f hf),h.tlt⟩
theorem St.old (h:St W M T n G D F a w) {k:Nat} (O:dT T D k):T k∨M k∨W.heap.size<=k:=by
 rcases O with h1 | ⟨r,hr,h1⟩
 ·exact .inl h1
 ·exact .inr (h.free r hr k h1).2
theorem St.zf {α:Type} {R:aO α} {v:Value} {e:TypeId} {cl:bK} {xs:List α} (h:St W M T n G D F a w) (i:Nat) (hi:D[i]? = some (.own v e R.size cl)) (j:Nat) (hj:F[j]? = some (ap R cl xs)):St W M T n G (D.eraseIdx i) (aT R v xs::F) a w:=by
 have hlt:=(cu.1 hi).1;have hD:=(cu.1 hi).2;obtain⟨ho,hs⟩:=h.own _ (aD hi);have hr:aY R (dT T D) w cl xs:=h.get j hj;have h2:=h.drop i;refine h2.fact _ ?_;refine pv.rd hs ho (hr.keep (aj _ _) (fun k O=>.inl ?_)) (fun k O hT=>?_)
 ·rcases O with O | ⟨r,hr,O⟩
  ·exact .inl O
  ·exact .inr ⟨r,IG hr,O⟩
 ·rcases hT with hT | ⟨s,hs,hT⟩
  ·exact (h.free _ (aD hi) k O).1 hT
  ·obtain⟨z,hz⟩:=nP.1 hs;rw [DI] at hz;split at hz
   ·rename_i hzi;have hzl:=(cu.1 hz).1;have:=gC.1 h.apart z i hzl hlt hzi k (by rw [(cu.1 hz).2]; exact hT);rw [hD] at this; exact this O
   ·rename_i hzi;have hzl:=(cu.1 hz).1;have:=gC.1 h.apart i (z+1) hlt hzl (by omega) k (by rw [hD]; exact O);rw [(cu.1 hz).2] at this; exact this hT
end
theorem St.start (W:World) (M T:Nat->Prop) (n:Nat) (vs:bK) (hT:∀ k,T k->k<W.heap.size) (hn:vs.length<=n) (G:List (Nat×Value)) (hG:∀ t v,lk G t=some v->vs[t]? = some v) :
  St W M T n G [] [] { tmps:=vs.toArray++Array.replicate (n-vs.toArray.size) undef,defers:=[] } W:=by
 refine⟨by simp; omega,rfl,fun t v hv=>?_,aj _ _,fun r hr=>(by cases hr),fun r hr=>(by cases hr),sD,fun f hf=>(by cases hf),hT⟩;have h1:=hG t v hv;have h2:=(cu.1 h1).1;simp only [Array.getElem?_append,F9,h2,if_true,List.getElem?_toArray];exact h1
def n3:Nat->bK->List (Nat×Value)
 | _,[]=>[]
 | k,v::r=>(k,v)::n3 (k+1) r
theorem BY:∀ (vs:bK) (k t:Nat) (v:Value),lk (n3 k vs) t=some v->k<=t/\vs[t-k]? = some v
 | [],k,t,v,h=>by simp [n3,lk] at h
 | u::r,k,t,v,h=>by
  simp only [n3,lk] at h;by_cases e:k=t
  ·subst e;rw [show Nat.beq k k=true from by simp] at h;simp only [cond_true,cp] at h;subst h; simp
  ·rw [P9 e] at h;obtain⟨h1,h2⟩:=BY r (k+1) t v h;refine⟨by omega,?_⟩;rw [show t-k=(t-(k+1))+1 by omega,E6]; exact h2
def bj (P:Program) (M:Nat->Prop) (f:FuncId) (args:bK) (w:World) (R:Value->World->Prop):Prop :=
 Calls P f args.toArray w fun e w'=>∃ v,e = .returned v/\Kt M w w'/\R v w'
theorem bj.mono {P:Program} {M:Nat->Prop} {f:FuncId} {args:bK} {w:World} {R R':Value->World->Prop} (h:bj P M f args w R) (C:∀ v w',R v w'->R' v w'):bj P M f args w R' :=
 Calls.mono h fun e w' ⟨v,h1,h2,h3⟩=>⟨v,h1,h2,C v w' h3⟩
def QW (M:Nat->Prop) (W:World) (R:Value->World->Prop):Ending->World->Prop:=fun e w'=>∃ v,e = .returned v/\Kt M W w'/\R v w'
theorem enter {P:Program} {M:Nat->Prop} {f:FuncId} {fn:Func} {c:Code} {args:bK} {w:World} {R:Value->World->Prop} (hf:P.funcs[f]? = some fn) (hb:fn.body=some c)
  (T:Nat->Prop) (n:Nat) (hn:fn.ntmps=n) (hT:∀ k,T k->k<w.heap.size) (hl:Nat.ble args.length n=true)
  (h:∀ a,St w M T n (n3 0 args) [] [] a w->c.wp P (bodyPost P fn (QW M w R)) a w):bj P M f args w R:=by
 refine calls_of_wp hf hb (h _ ?_);subst hn;exact St.start w M T _ args hT (cw hl) _ fun t v hv=>by
  obtain⟨h1,h2⟩:=BY args 0 t v hv;simpa using h2
end
section
open Go.RowKit
variable {Q:Exit->Act->World->Prop} {ag:Bool} {b:Nat} {c:Bool} {d:Option Nat} {e:TypeId} {f j:Nat} {o:Oper} {ops:Array Oper} {p q:Int} {rest:List Oper} {s t t' ty:TypeId} {us:bK} {v:Value} {want:Bool} {x y:Operand} {z:Nat}
variable {pos:String} {af:Array Edge} {g:Option (Nat×Bool)}
def ev (G:List (Nat×Value)):Operand->Option Value
 | .tmp t=>lk G t
 | .const v=>some v
 | .func f=>some (.func (.func f) #[] #[])
 | .global g=>some (.pointer (some ⟨g,0,none⟩))
def evs (G:List (Nat×Value)):List Operand->Option (bK)
 | []=>some []
 | x::r=>match ev G x with
  | some v=>match evs G r with
   | some vs=>some (v::vs)
   | none=>none
  | none=>none
def sA (P:Program) (o:Oper) (a:Act) (w:World) (K:Act->World->Prop):Prop:=∀ (K':Act->World->Prop) (Q:Exit->Act->World->Prop),(∀ a w,K a w->K' a w)->o.wp P a w K' Q
def Ye (P:Program) (o:Oper) (a:Act) (E:Nat->Prop) (w:World) (v:Value):Prop:=∀ w',Kt E w w'->(execOp a.eval o).run P w' = .ok (.value v) w'
def qT (P:Program) (t:TypeId):Option (Bool×Nat) :=
 match P.underlying t,P.info? t with
 | some (.struct _),some i=>some (true,i.size)
 | some (.array _ _),some i=>some (true,i.size)
 | some _,some i=>some (false,i.size)
 | _,_=>none
def J8 (P:Program) (s:TypeId) (f:Nat):Option Nat :=
 match P.underlying s with
 | some (.struct fs)=>match fs[f]? with
  | some d=>match P.info? d.type with
   | some i=>if i.size=0 then none else some d.offset
   | none=>none
  | none=>none
 | _=>none
section
variable {P:Program} {W:World} {M T E:Nat->Prop} {n:Nat} {G G':List (Nat×Value)} {D D':List cS} {F F':List cL} {a:Act} {w w':World} {K:Act->World->Prop}
theorem St.ev (h:St W M T n G D F a w) (hx:ev G x=some v):a.eval x=v:=by
 cases x with
 | tmp t =>
  have:=h.slots t v hx;simp [Act.eval,QH,this]
 | const u=>simp only [Proofs.YtcpplgcgcbihoaaGreatDoor.ev,cp] at hx; exact hx
 | func f=>simp only [Proofs.YtcpplgcgcbihoaaGreatDoor.ev,cp] at hx; exact hx
 | global g=>simp only [Proofs.YtcpplgcgcbihoaaGreatDoor.ev,cp] at hx; exact hx
theorem St.evs (h:St W M T n G D F a w):∀ {xs:List Operand} {vs:bK},evs G xs=some vs->xs.map a.eval=vs
 | [],vs,hx=>by simp only [Proofs.YtcpplgcgcbihoaaGreatDoor.evs,cp] at hx; subst hx; rfl
 | x::r,vs,hx=>by
  simp only [Proofs.YtcpplgcgcbihoaaGreatDoor.evs] at hx;cases h1:Proofs.YtcpplgcgcbihoaaGreatDoor.ev G x with
  | none=>rw [h1] at hx; cases hx
  | some v =>
   cases h2:Proofs.YtcpplgcgcbihoaaGreatDoor.evs G r with
   | none=>rw [h1,h2] at hx; cases hx
   | some us =>
    rw [h1,h2] at hx;simp only [cp] at hx;subst hx;rw [yk,h.ev h1,h.evs h2]
theorem wl (hg:o.guard=none) (h:sA P o a w (wpList P ops Q rest)):wpList P ops Q (o::rest) a w :=
 wpList_plain hg fun K hK=>h K Q hK
theorem s6 {t:Nat} (h:St W M T n G D F a w) (hg:o.guard=some (j,want)) (hj:(ops[j]?).bind (·.dst)=some t) (ht:lk G t=some (.bool c)):Region.wanted o (yielded ops a.tmps)=(c==want):=by
 have h1:=h.slots t _ ht;unfold Region.wanted yielded;rw [hg];simp only [hj,ad,h1];cases c <;> cases want <;> rfl
theorem wg {t:Nat} (I:St W M T n G D F a w) (hg:o.guard=some (j,want)) (hj:(ops[j]?).bind (·.dst)=some t) (ht:lk G t=some (.bool c)) (hc:c=want) (h:sA P o a w (wpList P ops Q rest)):wpList P ops Q (o::rest) a w :=
 wpList_step fun K hK=>by rw [if_pos (by rw [s6 I hg hj ht,hc]; simp)]; exact h K Q hK
theorem wn {t d:Nat} (I:St W M T n G D F a w) (hg:o.guard=some (j,want)) (hj:(ops[j]?).bind (·.dst)=some t) (ht:lk G t=some (.bool c)) (hc:c = !want) (hd:o.dst=some d) (hn:Nat.blt d n=true)
  (h:∀ a,St W M T n ((d,undef)::G) D F a w->wpList P ops Q rest a w):wpList P ops Q (o::rest) a w :=
 wpList_step fun K hK=>by rw [if_neg (by rw [s6 I hg hj ht,hc]; cases want <;> simp)]; rw [hd]; exact hK _ _ (h _ (I.put hn _))
theorem UR {t d:Nat} (I:St W M T n G D F a w) (hg:o.guard=some (j,want)) (hj:(ops[j]?).bind (·.dst)=some t) (ht:lk G t=some undef) (hd:o.dst=some d) (hn:Nat.blt d n=true)
  (h:∀ a,St W M T n ((d,undef)::G) D F a w->wpList P ops Q rest a w):wpList P ops Q (o::rest) a w :=
 wpList_step fun K hK=>by
  have h1:=I.slots t _ ht;have h2:Region.wanted o (yielded ops a.tmps)=false:=by
   unfold Region.wanted yielded;rw [hg];simp only [hj,ad,h1];rfl
  rw [if_neg (by rw [h2]; simp),hd]; exact hK _ _ (h _ (I.put hn _))
theorem Ye.k (h:Ye P o a E w v):sA P o a w (fun a' w'=>a'=a.put o.dst v/\w'=w):=fun K' Q hK=>by
 unfold Oper.wp;rw [h w (aj _ _),Oper.upon_value];exact hK _ _ ⟨rfl,rfl⟩
theorem sA.mono {K':Act->World->Prop} (h:sA P o a w K) (O:∀ a w,K a w->K' a w):sA P o a w K':=fun K2 Q h2=>h K2 Q fun a w ha=>h2 a w (O a w ha)
theorem ky {d:Nat} (I:St W M T n G D F a w) (h:Ye P o a No w v) (hd:o.dst=some d) (hn:Nat.blt d n=true) (k:∀ a,St W M T n ((d,v)::G) D F a w->K a w):sA P o a w K :=
 h.k.mono fun a' w' ⟨h1,h2⟩=>by subst h1 h2; rw [hd]; exact k _ (I.put hn v)
theorem wy {d:Nat} (I:St W M T n G D F a w) (h:Ye P o a No w v) (hg:o.guard=none) (hd:o.dst=some d) (hn:Nat.blt d n=true) (k:∀ a,St W M T n ((d,v)::G) D F a w->wpList P ops Q rest a w):wpList P ops Q (o::rest) a w :=
 wl hg (ky I h hd hn k)
theorem Ye.of (h:∀ w,(execOp a.eval o).run P w = .ok (.value v) w):Ye P o a E w v:=fun w' _=>h w'
theorem M4 (I:St W M T n G D F a w) (hx:ev G x=some v):Ye P ⟨d,.move x,ty,pos,af,g⟩ a E w v :=
 Ye.of fun w=>by simp only [execOp,Sem.run_pure,I.ev hx]
theorem Ho (I:St W M T n G D F a w) (hx:ev G x=some v):Ye P ⟨d,.assign x,ty,pos,af,g⟩ a E w v :=
 Ye.of fun w=>by simp only [execOp,Sem.run_pure,I.ev hx]
theorem Oo {c:Operand} {b:Bool} (I:St W M T n G D F a w) (hc:ev G c=some (.bool b)) (hb:b=true) (hv:ev G x=some v):Ye P ⟨d,.pick c x y,ty,pos,af,g⟩ a E w v :=
 Ye.of fun w=>by simp [execOp,I.ev hc,I.ev hv,asBool,hb]
theorem On {c:Operand} {b:Bool} (I:St W M T n G D F a w) (hc:ev G c=some (.bool b)) (hb:b=false) (hv:ev G y=some v):Ye P ⟨d,.pick c x y,ty,pos,af,g⟩ a E w v :=
 Ye.of fun w=>by simp [execOp,I.ev hc,I.ev hv,asBool,hb]
def PZ:BinOp->IntKind->Int->Int->Option Value
 | .add,k,x,y=>some (.int k (k.wrap (x+y)))
 | .sub,k,x,y=>some (.int k (k.wrap (x-y)))
 | .mul,k,x,y=>some (.int k (k.wrap (x*y)))
 | .eql,_,x,y=>some (.bool (x==y))
 | .neq,_,x,y=>some (.bool (x != y))
 | .lss,_,x,y=>some (.bool (decide (x<y)))
 | .leq,_,x,y=>some (.bool (decide (x<=y)))
 | .gtr,_,x,y=>some (.bool (decide (y<x)))
 | .geq,_,x,y=>some (.bool (decide (y<=x)))
 | _,_,_,_=>none
theorem Hr {op:BinOp} {k:IntKind} (I:St W M T n G D F a w)
  (hx:ev G x=some (.int k p)) (hy:ev G y=some (.int k q)) (hv:PZ op k p q=some v):Ye P ⟨d,.binOp op t x y t',ty,pos,af,g⟩ a E w v :=
 Ye.of fun w=>by
  have h1:=I.ev hx;have h2:=I.ev hy;cases op <;> simp only [PZ,cp,reduceCtorEq] at hv <;> subst hv <;> simp [execOp,h1,h2,eqGuard,binOp,Op.intArith,Op.intCmp]
theorem EZ {k:IntKind} (I:St W M T n G D F a w)
  (hx:ev G x=some (.int k p)) (hy:ev G y=some (.int k q)) (hq:q≠0):Ye P ⟨d,.binOp .rem t x y t',ty,pos,af,g⟩ a E w (.int k (p.tmod q)) :=
 Ye.of fun w=>by
  have h1:=I.ev hx;have h2:=I.ev hy;simp [execOp,h1,h2,eqGuard,binOp,Op.intDiv,hq]
theorem Bx {k:IntKind} (I:St W M T n G D F a w)
  (hx:ev G x=some (.int k p)) (hy:ev G y=some (.int k q)) (hq:q≠0):Ye P ⟨d,.binOp .quo t x y t',ty,pos,af,g⟩ a E w (.int k (k.wrap (p.tdiv q))) :=
 Ye.of fun w=>by
  have h1:=I.ev hx;have h2:=I.ev hy;simp [execOp,h1,h2,eqGuard,binOp,Op.intDiv,hq]
def Qu:BinOp->ByteArray->ByteArray->Option Value
 | .eql,x,y=>some (.bool (x.toList==y.toList))
 | .neq,x,y=>some (.bool !(x.toList==y.toList))
 | .lss,x,y=>some (.bool (Op.bytesLess x.toList y.toList))
 | .gtr,x,y=>some (.bool !(Op.bytesLess x.toList y.toList||x.toList==y.toList))
 | _,_,_=>none
theorem S4 {op:BinOp} {p q:ByteArray} (I:St W M T n G D F a w)
  (hx:ev G x=some (.string p)) (hy:ev G y=some (.string q)) (hv:Qu op p q=some v):Ye P ⟨d,.binOp op t x y t',ty,pos,af,g⟩ a E w v :=
 Ye.of fun w=>by
  have h1:=I.ev hx;have h2:=I.ev hy;cases op <;> simp only [Qu,cp,reduceCtorEq] at hv <;> subst hv <;> simp [execOp,h1,h2,eqGuard,binOp,Op.stringOp]
theorem gq {p q:ByteArray} (I:St W M T n G D F a w)
  (hx:ev G x=some (.string p)) (hy:ev G y=some (.string q)) (hz:p.size+q.size<=140737488355328):Ye P ⟨d,.binOp .add t x y t',ty,pos,af,g⟩ a E w (.string (p++q)) :=
 Ye.of fun w=>by
  have h1:=I.ev hx;have h2:=I.ev hy;have h3:¬ (((p.size+q.size:Nat):Int)>IntKind.i64.max):=by
   have:IntKind.i64.max=9223372036854775807:=rfl;omega
  simp only [execOp,h1,h2,eqGuard,binOp,Op.stringOp,if_neg h3];simp
theorem S1 {b:Bool} (I:St W M T n G D F a w) (hx:ev G x=some (.bool b)):Ye P ⟨d,.unOp .not t x,ty,pos,af,g⟩ a E w (.bool !b) :=
 Ye.of fun w=>by simp [execOp,I.ev hx,Op.unary]
theorem SZ {k:IntKind} (I:St W M T n G D F a w) (hx:ev G x=some (.int k p)):Ye P ⟨d,.unOp .neg t x,ty,pos,af,g⟩ a E w (.int k (k.wrap (0-p))) :=
 Ye.of fun w=>by simp [execOp,I.ev hx,Op.unary,Op.intArith]
theorem Uc {i:Nat} {vs:Array Value} (I:St W M T n G D F a w) (hx:ev G x=some (.tuple vs)) (hv:vs[i]? = some v):Ye P ⟨d,.extract x i,ty,pos,af,g⟩ a E w v :=
 Ye.of fun w=>by simp [execOp,I.ev hx,Instr.extract,hv]
theorem S0 {p:Addr} (I:St W M T n G D F a w) (hx:ev G x=some (.pointer (some p))):Ye P ⟨d,.nilCheck x,ty,pos,af,g⟩ a E w (.pointer (some p)) :=
 Ye.of fun w=>by simp [execOp,I.ev hx]
def n8 (P:Program) (t:TypeId):Option TypeId:=match P.underlying t with
 | some (.slice e)=>some e
 | _=>none
theorem wB (h:n8 P t=some e):P.underlying t=some (.slice e):=by
 unfold n8 at h;split at h
 ·rename_i e' h1; injection h with h; subst h; exact h1
 ·cases h
theorem M3 {m:Nat} (I:St W M T n G D F a w) (ht:n8 P t=some e) (hx:ev G x=some v) (hv:∃ A c,v = .slice A m c):Ye P ⟨d,.call { callee:=.builtin .len,args:=#[x],argTypes:=#[t] },ty,pos,af,g⟩ a E w (.int .i64 m) :=
 Ye.of fun w=>by
  obtain⟨A,c,rfl⟩:=hv;have h1:=I.ev hx;simp [execOp,resolve,invoke,builtin,h1,Builtin.len_,run_underlying (wB ht),goInt]
theorem Pp {α:Type} {R:aO α} {xs:List α} (I:St W M T n G D F a w) (ht:n8 P t=some e) (hx:ev G x=some v) (i:Nat) (hi:F[i]? = some (aT R v xs)):Ye P ⟨d,.call { callee:=.builtin .len,args:=#[x],argTypes:=#[t] },ty,pos,af,g⟩ a E w (.int .i64 xs.length) :=
 M3 I ht hx (by obtain⟨A,c,e,_⟩:=aI.len (I.get i hi); exact⟨A,c,e⟩)
theorem N0 {B sz:Nat} {cl:bK} (h:pv w B e sz v cl) (hs:0<sz) {m:Nat} (hm:cl.length=m*sz):∃ A c,v = .slice A m c:=by
 obtain⟨A,k,c,rfl,h1,_⟩:=h.form hs;have:k=m:=za hs (h1.symm.trans hm);subst this;exact⟨A,c,rfl⟩
theorem M2 {α:Type} {R:aO α} {xs:List α} {cl:bK} {e':TypeId} (I:St W M T n G D F a w) (ht:n8 P t=some e) (hx:ev G x=some v) (j:Nat) (hj:D[j]? = some (.own v e' R.size cl)) (i:Nat) (hi:F[i]? = some (ap R cl xs)):Ye P ⟨d,.call { callee:=.builtin .len,args:=#[x],argTypes:=#[t] },ty,pos,af,g⟩ a E w (.int .i64 xs.length) :=
 M3 I ht hx (by obtain⟨h1,h2⟩:=I.own _ (aD hj); exact N0 h1 h2 (I.get i hi:aY R _ w cl xs).1)
theorem QF {s:ByteArray} (I:St W M T n G D F a w) (ht:P.underlying t=some .string) (hx:ev G x=some (.string s)):Ye P ⟨d,.call { callee:=.builtin .len,args:=#[x],argTypes:=#[t] },ty,pos,af,g⟩ a E w (.int .i64 s.size) :=
 Ye.of fun w=>by
  have h1:=I.ev hx;simp [execOp,resolve,invoke,builtin,h1,Builtin.len_,run_underlying ht,goInt]
theorem Kv {k:Nat} {o:Nat} (hf:J8 P s f=some k) (w:World):(Instr.fieldAt s (.pointer (some ⟨b,o,none⟩)) f).run P w = .ok (.pointer (some ⟨b,o+k,none⟩)) w:=by
 unfold J8 at hf;split at hf
 ·rename_i fs hu;split at hf
  ·rename_i fd hfd;split at hf
   ·rename_i i hi;split at hf
    ·cases hf
    ·rename_i hz;injection hf with hf;subst hf;have hsz:(sizeOf fd.type).run P w = .ok i.size w:=by simp [sizeOf,typeInfo,hi]
     have hadd:Addr.add ⟨b,o,none⟩ fd.offset=⟨b,o+fd.offset,none⟩:=by
      unfold Addr.add;split
      ·rename_i h0; rw [h0]; rfl
      ·rfl
     simp [Instr.fieldAt,run_underlying hu,hfd,Instr.sureAddr,fieldPlace,hsz,hz,hadd]
   ·cases hf
  ·cases hf
 ·cases hf
theorem Hq {k:Nat} {o:Nat} (I:St W M T n G D F a w) (hx:ev G x=some (.pointer (some ⟨b,o,none⟩))) (hf:J8 P s f=some k):Ye P ⟨d,.fieldAddr s x f,ty,pos,af,g⟩ a E w (.pointer (some ⟨b,o+k,none⟩)) :=
 Ye.of fun w=>by simp [execOp,I.ev hx,Kv hf]
theorem xA {b:Bool} (h:qT P t=some (b,z)) (w:World):(isAgg t).run P w = .ok b w:=by
 unfold qT at h;split at h
 all_goals first | (cases h; done) | skip
 all_goals
  rename_i hu hi;simp only [cp,ze] at h;obtain⟨rfl,_⟩:=h;simp [isAgg,run_underlying hu]
theorem qf {b:Bool} (h:qT P t=some (b,z)) (w:World):(sizeOf t).run P w = .ok z w:=by
 unfold qT at h;split at h
 all_goals first | (cases h; done) | skip
 all_goals
  rename_i hu hi;simp only [cp,ze] at h;obtain⟨_,rfl⟩:=h;simp [sizeOf,typeInfo,hi]
theorem px (b o k:Nat):Addr.add ⟨b,o,none⟩ k=⟨b,o+k,none⟩:=by
 unfold Addr.add;split
 ·rename_i h0; rw [h0]; rfl
 ·rfl
theorem Ah {o:Nat}:∀ (m:Nat) (us:bK) (i:Nat) (acc:Array Value) (w:World),us.length=m->(∀ j u,us[j]? = some u->w.cell? ⟨b,o+i+j,none⟩=some u)->(loadCellsFrom ⟨b,o,none⟩ i m acc).run P w = .ok (acc++us.toArray) w
 | 0,us,i,acc,w,hl,_=>by
  obtain rfl:=DH hl;simp [loadCellsFrom]
 | m+1,us,i,acc,w,hl,hc=>by
  cases us with
  | nil=>simp at hl
  | cons u r =>
   have h0:=hc 0 u rfl;have ih:=Ah m r (i+1) (acc.push u) w (by simpa using hl) (fun j v hv=>by have:=hc (j+1) v (by simpa using hv); rwa [show o+i+(j+1)=o+(i+1)+j by omega] at this);rw [qi] at h0;simp [loadCellsFrom,px,h0,load,ih,Sem.run]
theorem ES {o:Nat} (ht:qT P t=some (ag,z)) (hl:us.length=z) (hv:v=cond ag (.agg us.toArray) (us.getD 0 undef)) (hz:ag=false->z=1) (w:World) (hc:∀ j u,us[j]? = some u->w.cell? ⟨b,o+j,none⟩=some u):(loadVar t ⟨b,o,none⟩).run P w = .ok v w:=by
 cases ag with
 | true =>
  have:=Ah (P:=P) (b:=b) (o:=o) z us 0 #[] w hl (fun j u hu=>by rw [qi]; exact hc j u hu);rw [hv];simp [loadVar,xA ht,qf ht,loadCells,this]
 | false =>
  have h1:=hz rfl;subst h1;cases us with
  | nil=>simp at hl
  | cons u r =>
   have h0:=hc 0 u rfl;rw [hv];rw [qi] at h0;simp [loadVar,xA ht,load,h0,Sem.run]
def bL (ag:Bool) (us:bK):Value:=cond ag (.agg us.toArray) (us.getD 0 undef)
theorem yW {o:Nat} (ht:qT P t=some (ag,z)) (hl:us.length=z) (hz:ag=false->z=1) (w:World) (hc:∀ j u,us[j]? = some u->w.cell? ⟨b,o+j,none⟩=some u):(Instr.loadAt t (.pointer (some ⟨b,o,none⟩))).run P w = .ok (bL ag us) w:=by
 simp [Instr.loadAt,Instr.sureAddr,ES ht hl rfl hz w hc,bL]
theorem eA {o:Nat} {cs:bK} {bt:TypeId} (I:St W M T n G D F a w) (hx:ev G x=some (.pointer (some ⟨b,o,none⟩))) (ht:qT P t=some (ag,z)) (i:Nat) (hi:D[i]? = some (.box b cs bt)) (hE:¬ E b)
  (hu:(cs.drop o).take z=us) (hl:us.length=z) (hz:ag=false->z=1):Ye P ⟨d,.load t x,ty,pos,af,g⟩ a E w (bL ag us):=fun w' O=>by
 have hr:w.heap[b]? = some (.cells cs.toArray bt (0,0)):=I.own _ (aD hi);have hr':=(O.block b (Ef.1 hr).1 hE).trans hr;have:=yW (P:=P) (b:=b) (o:=o) ht hl hz w' (fun j u hj=>by
  rw [cell_of_row _ _ _ _ _ _ hr',List.getElem?_toArray];rw [<- hu,ub] at hj;split at hj
  ·rw [xi] at hj; exact hj
  ·cases hj)
 simp [execOp,I.ev hx,this]
theorem xG {o k:Nat} {cs:bK} (I:St W M T n G D F a w) (ht:qT P t=some (ag,z)) (i:Nat) (hi:F[i]? = some (fb b o cs)) (hx:ev G x=some (.pointer (some ⟨b,o+k,none⟩))) (hE:∀ j,E j->dT T D j∨w.heap.size<=j)
  (hu:(cs.drop k).take z=us) (hl:us.length=z) (hz:ag=false->z=1):Ye P ⟨d,.load t x,ty,pos,af,g⟩ a E w (bL ag us):=fun w' O=>by
 have hc:pu (dT T D) w b o cs:=I.get i hi;have hk2:Kt (dT T D) w w':=⟨O.os,O.tape,O.output,O.size,fun j hj hn=>O.block j hj fun he=>(hE j he).elim hn fun h=>by omega⟩;have hc':=(hc.keep hk2 (Nw.refl _ _)).sub (ds:=us) k (fun j u hj=>by
  rw [<- hu,ub] at hj;split at hj
  ·rw [xi] at hj; exact hj
  ·cases hj)
 have:=yW (P:=P) (b:=b) (o:=o+k) ht hl hz w' hc'.2.2;simp [execOp,I.ev hx,this]
theorem Hp {cs:Array Value} {k:Nat} {fs:Array Field} {fd:Field} (I:St W M T n G D F a w) (hx:ev G x=some (.agg cs)) (hs:P.underlying s=some (.struct fs)) (hf:fs[f]? = some fd) (O:fd.offset=k) (ht:qT P fd.type=some (ag,z))
  (hu:(cs.toList.drop k).take z=us) (hl:us.length=z) (hz:ag=false->z=1):Ye P ⟨d,.field s x f,ty,pos,af,g⟩ a E w (bL ag us) :=
 Ye.of fun w=>by
  have h1:=I.ev hx;subst O;have hp:(part fd.type cs fd.offset).run P w = .ok (bL ag us) w:=by
   cases ag with
   | true =>
    have:cs.extract fd.offset (fd.offset+z)=us.toArray:=by
     rw [<- hu];apply HG.1;rw [Array.toList_extract,List.extract_eq_take_drop];simp
    simp [part,xA ht,qf ht,this,bL]
   | false =>
    have h1:=hz rfl;subst h1;have:cs[fd.offset]? = some (us.getD 0 undef):=by
     rw [<- hu] at hl ⊢;rw [eS,mO] at hl;have hlt:fd.offset<cs.toList.length:=by omega
     rw [<- Array.getElem?_toList,cH hlt];simp [M7,ub,xi,cH hlt]
    simp [part,xA ht,this,bL]
  simp [execOp,h1,Instr.field,run_underlying hs,hf,asAgg,hp]
theorem vR {k:IntKind} {i:Int} {p:ByteArray} {c:UInt8} (I:St W M T n G D F a w) (hs:P.underlying s=some .string) (hx:ev G x=some (.string p)) (hy:ev G y=some (.int k i)) (hc:bO p.toList i=some c):Ye P ⟨d,.index s x y,ty,pos,af,g⟩ a E w (.int .u8 c.toNat) :=
 Ye.of fun w=>by
  have h1:=I.ev hx;have h2:=I.ev hy;obtain⟨q1,q2,q3⟩:=ja hc;have h3:p[i.toNat]? = some c:=by
   rw [ByteArray.toList_eq,Array.getElem?_toList] at q3;rw [<- q3]; rfl
  simp [execOp,h1,h2,Instr.index,asIntOf,run_underlying hs,q1,h3]
end
end
section
open Go.RowKit
variable {cs:bK} {t ty:TypeId} {v:Value}
variable {pos:String} {af:Array Edge} {g:Option (Nat×Bool)}
def gF (P:Program) (t:TypeId):Option (bK):=match P.info? t with
 | some i=>match i.zero with
  | some z=>some z.cells.toList
  | none=>none
 | none=>none
def pr (cs:bK) (o:Nat) (us:bK):bK:=cs.take o++us++cs.drop (o+us.length)
def Es (pl:List (Nat×Nat)) (cs:bK):List (Nat×Value)->List (bK)->Option (bK)
 | [],[]=>some cs
 | p::r,u::s=>match pl[p.1]? with
  | some q=>cond (Nat.beq u.length q.2&&Nat.ble (q.1+q.2) cs.length) (Es pl (pr cs q.1 u) r s) none
  | none=>none
 | _,_=>none
def Cs:List (Nat×Value)->List (bK)->Prop
 | [],[]=>True
 | p::r,u::s=>p.2.cells.toList=u/\Cs r s
 | _,_=>False
theorem mF (h:v.oneCell'=true):v.cells.toList=[v]:=by cases v <;> first | rfl | cases h
def DN (P:Program) (t:TypeId):Option (List (Nat×Nat)):=match P.underlying t with
 | some (.struct fs)=>fs.toList.mapM fun f=>(P.info? f.type).map fun i=>(f.offset,i.size)
 | _=>none
def evp (G:List (Nat×Value)):List (Nat×Operand)->Option (List (Nat×Value))
 | []=>some []
 | p::r=>match ev G p.2 with
  | some v=>match evp G r with
   | some vs=>some ((p.1,v)::vs)
   | none=>none
  | none=>none
theorem G9:∀ (us:bK) (o k:Nat) (cs:Array Value),o+k+us.length<=cs.size->((us.zipIdx k).foldl (fun cs x=>cs.setIfInBounds (o+x.2) x.1) cs).toList=cs.toList.take (o+k)++us++cs.toList.drop (o+k+us.length)
 | [],o,k,cs,h=>by simp
 | u::r,o,k,cs,h=>by
  simp only [ip] at h;rw [List.zipIdx_cons,Hz,G9 r o (k+1) _ (by simp; omega)];simp only [Array.toList_setIfInBounds,ip];apply List.ext_getElem?;intro j;have hl:cs.toList.length=cs.size:=by simp
  simp only [JQ,bk,eS,HC,ub,Ay,xi,ip];rw [hl];rw [show min (o+(k+1)) cs.size=o+k+1 by omega,show min (o+k) cs.size=o+k by omega];by_cases h1:j<o+k
  ·simp [h1,show j<o+k+1+r.length by omega,show j<o+(k+1) by omega,show j<o+k+1 by omega,show j<o+k+(r.length+1) by omega,show ¬ o+k=j by omega]
  ·by_cases h2:j=o+k
   ·subst h2;simp [show o+k<o+k+1+r.length by omega,show o+k<o+(k+1) by omega,show o+k<cs.size by omega]
   ·by_cases h3:j<o+k+1+r.length
    ·simp [h1,h3,show ¬ j<o+k+1 by omega,show j<o+k+(r.length+1) by omega];rw [show j-(o+k)=(j-(o+k+1))+1 by omega,E6]
    ·simp [h3,show ¬ j<o+k+1 by omega,show ¬ j<o+k+(r.length+1) by omega,show ¬ o+k=o+(k+1)+r.length+(j-(o+k+1+r.length)) by omega];congr 1; omega
theorem Fu {place:Nat->Option (Nat×Nat)} {pl:List (Nat×Nat)} (hp:∀ i q,pl[i]? = some q->place i=some q):∀ (parts:List (Nat×Value)) (us:List (bK)) (cs ws:bK),Cs parts us->Es pl cs parts us=some ws->Instr.fill place cs.toArray parts=some ws.toArray
 | [],[],cs,ws,_,h=>by simp only [Es,cp] at h; subst h; rfl
 | [],_::_,_,_,h,_=>h.elim
 | _::_,[],_,_,h,_=>h.elim
 | (i,v)::r,u::s,cs,ws,hc0,h=>by
  obtain⟨hu,hc1⟩:=hc0;simp only at hu;subst hu;simp only [Es] at h;cases hq:pl[i]? with
  | none=>rw [hq] at h; cases h
  | some q =>
   obtain⟨off,size⟩:=q;rw [hq] at h;simp only at h;cases hc:(Nat.beq v.cells.toList.length size&&Nat.ble (off+size) cs.length) with
   | false=>rw [hc] at h; cases h
   | true =>
    rw [hc] at h;simp only [cond_true] at h;simp only [qj] at hc;have h1:v.cells.size=size:=by have:=xf hc.1; simpa using this
    have h2:off+size<=cs.length:=cw hc.2;have ih:=Fu hp r s _ ws hc1 h;have e:(v.cells.zipIdx.foldl (fun cs x=>cs.setIfInBounds (off+x.2) x.1) cs.toArray)=(pr cs off v.cells.toList).toArray:=by
     apply HG.1;rw [<- Array.foldl_toList,Array.toList_zipIdx,G9 _ off 0 _ (by simp; omega)];simp [pr]
    have h3:¬ (v.cells.size≠size||decide (off+v.cells.size>cs.toArray.size))=true:=by simp [h1]; omega
    simp only [Instr.fill,hp i _ hq];simp only [ne_eq,decide_not,yg,tI,decide_eq_false_iff_not,decide_eq_true_eq] at h3 ⊢;rw [if_neg h3];rw [<- ih];congr 1
section
variable {P:Program} {W:World} {M T E:Nat->Prop} {n:Nat} {G G':List (Nat×Value)} {D D':List cS} {F F':List cL} {a:Act} {w w':World} {K:Act->World->Prop}
theorem BK {o:Oper} {w':World} (h:(execOp a.eval o).run P w = .ok (.value v) w') (O:K (a.put o.dst v) w'):sA P o a w K:=fun K' Q hK=>by
 unfold Oper.wp;rw [h,Oper.upon_value];exact hK _ _ O
theorem GP {o:Oper} {w':World} (h:(execOp a.eval o).run P w = .ok .skip w') (O:K (a.put o.dst undef) w'):sA P o a w K:=fun K' Q hK=>by
 unfold Oper.wp;rw [h,Oper.upon_skip];exact hK _ _ O
theorem Fa (h:gF P t=some cs) (w:World):∃ z:Value,z.cells.toList=cs/\(zeroValue t).run P w = .ok z w:=by
 unfold gF at h;split at h
 ·rename_i i hi;split at h
  ·rename_i z hz;injection h with h;exact⟨z,h,by simp [zeroValue,typeInfo,hi,hz]⟩
  ·cases h
 ·cases h
theorem dZ {d:Nat} (I:St W M T n G D F a w) (hz:gF P t=some cs) (hn:Nat.blt d n=true)
  (k:∀ b,w.heap.size<=b->∀ a w',Kt No w w'->St W M T n ((d,.pointer (some ⟨b,0,none⟩))::G) (.box b cs t::D) F a w'->K a w'):sA P ⟨some d,.alloc t,ty,pos,af,g⟩ a w K:=by
 obtain⟨z,hz1,hz2⟩:=Fa hz w;have hr:(execOp a.eval ⟨some d,.alloc t,ty,pos,af,g⟩).run P w = .ok (.value (.pointer (some ⟨w.heap.size,0,none⟩))) (w.alloc (.cells cs.toArray t)):=by
  subst hz1;simp [execOp,Instr.alloc,hz2,newVar,newRow]
 exact BK hr (k w.heap.size (cm _) _ _ (Kt.alloc _ _) ((I.alloc cs t).put hn _))
theorem Jb {d:Nat} {x:Operand} (I:St W M T n G D F a w) (hx:ev G x=some v) (hv:v.cells.toList=cs) (hn:Nat.blt d n=true)
  (k:∀ b,w.heap.size<=b->∀ a w',Kt No w w'->St W M T n ((d,.pointer (some ⟨b,0,none⟩))::G) (.box b cs t::D) F a w'->K a w'):sA P ⟨some d,.box t x,ty,pos,af,g⟩ a w K:=by
 have hr:(execOp a.eval ⟨some d,.box t x,ty,pos,af,g⟩).run P w = .ok (.value (.pointer (some ⟨w.heap.size,0,none⟩))) (w.alloc (.cells cs.toArray t)):=by
  subst hv;simp [execOp,Instr.box,I.ev hx,newVar,newRow]
 exact BK hr (k w.heap.size (cm _) _ _ (Kt.alloc _ _) ((I.alloc cs t).put hn _))
theorem Ec {ag:Bool} {z:Nat} (ht:qT P t=some (ag,z)) {b o:Nat} {cs:Array Value} {bt:TypeId} (hr:w.heap[b]? = some (.cells cs bt (0,0))) (hz:v.cells.toList.length=z) (hl:o+z<=cs.size) (h1:∀ u∈v.cells.toList,u.oneCell'=true) :
  (Instr.storeAt t (.pointer (some ⟨b,o,none⟩)) v).run P w = .ok () (w.setRow b (cs.toList.take o++v.cells.toList++cs.toList.drop (o+z)).toArray):=by
 have h2:=run_storeCells_at (P:=P) b o bt v.cells.toList 0 cs w hr (by omega) h1;simp only [qi,hz] at h2;have h3:v.cells.size=z:=by rw [<- hz]; simp
 simp [Instr.storeAt,Instr.sureAddr,storeVar,qf ht,h3,h2]
theorem vt {x y:Operand} {ag:Bool} {z b o:Nat} {us:bK} {bt:TypeId} (I:St W M T n G D F a w) (hx:ev G x=some (.pointer (some ⟨b,o,none⟩))) (hy:ev G y=some v) (hv:v.cells.toList=us) (ht:qT P t=some (ag,z)) (i:Nat) (hi:D[i]? = some (.box b cs bt))
  (hz:us.length=z) (hl:Nat.ble (o+z) cs.length=true) (h1:∀ u∈us,u.oneCell'=true)
  (k:∀ w',Kt (fun j=>j=b) w w'->St W M T n G (D.set i (.box b (pr cs o us) bt)) F a w'->K a w'):sA P ⟨none,.store t x y,ty,pos,af,g⟩ a w K:=by
 have hr:w.heap[b]? = some (.cells cs.toArray bt (0,0)):=I.own _ (aD hi);subst hv;have hle:=cw hl;have hst:=Ec (P:=P) ht hr hz (by simpa using hle) h1;have hrow:(w.setRow b (cs.take o++v.cells.toList++cs.drop (o+z)).toArray).heap[b]? = some (.cells (cs.take o++v.cells.toList++cs.drop (o+z)).toArray bt (0,0)):=setRow_heap w b cs.toArray _ bt _ hr;have O:Kt (fun j=>cS.dom (.box b cs bt) j) w (w.setRow b (cs.take o++v.cells.toList++cs.drop (o+z)).toArray):=by
  refine⟨rfl,rfl,rfl,by simp [World.setRow],fun j hj hn=>?_⟩;have hne:b≠j:=fun e=>hn (by simp [cS.dom,e]);simp [World.setRow,HA,hne]
 refine GP (w':=w.setRow b (cs.take o++v.cells.toList++cs.drop (o+z)).toArray) (by simp [execOp,I.ev hx,I.ev hy,hst]) (k _ (O.mono fun j hj=>by simp only [cS.dom,cp] at hj; exact hj.symm) ?_);have:=I.turn hi O (r':=.box b (pr cs o v.cells.toList) bt) (by rw [pr,hz]; exact hrow) (fun j hj=>.inl hj);exact this
theorem GV {α β:Type} (f:α->Sem β) (g:α->Option β) (w:World) (hf:∀ x y,g x=some y->(f x).run P w = .ok y w):∀ (l:List α) (r:List β),l.mapM g=some r->(l.mapM f).run P w = .ok r w
 | [],r,h=>by simp only [List.mapM_nil,Option.pure_def,cp] at h; subst h; simp
 | x::l,r,h=>by
  simp only [List.mapM_cons,Option.bind_eq_bind,Option.pure_def] at h;cases h1:g x with
  | none=>rw [h1] at h; cases h
  | some y =>
   cases h2:l.mapM g with
   | none=>rw [h1,h2] at h; cases h
   | some ys =>
    rw [h1,h2] at h;simp only [ad,cp] at h;subst h;simp [List.mapM_cons,hf x y h1,GV f g w hf l ys h2]
theorem St.evp (h:St W M T n G D F a w):∀ {ps:List (Nat×Operand)} {vs:List (Nat×Value)},evp G ps=some vs->ps.map (fun p=>(p.1,a.eval p.2))=vs
 | [],vs,hx=>by simp only [Proofs.YtcpplgcgcbihoaaGreatDoor.evp,cp] at hx; subst hx; rfl
 | (i,x)::r,vs,hx=>by
  simp only [Proofs.YtcpplgcgcbihoaaGreatDoor.evp] at hx;cases h1:Proofs.YtcpplgcgcbihoaaGreatDoor.ev G x with
  | none=>rw [h1] at hx; cases hx
  | some v =>
   cases h2:Proofs.YtcpplgcgcbihoaaGreatDoor.evp G r with
   | none=>rw [h1,h2] at hx; cases hx
   | some us =>
    rw [h1,h2] at hx;simp only [cp] at hx;subst hx;rw [yk,h.ev h1,h.evp h2]
theorem br {d:Option Nat} {ps:List (Nat×Operand)} {pl:List (Nat×Nat)} {zs ws:bK} {us:List (bK)} {vs:List (Nat×Value)} (I:St W M T n G D F a w) (hp:DN P t=some pl) (hz:gF P t=some zs) (hv:evp G ps=some vs) (hcs:Cs vs us) (hf:Es pl zs vs us=some ws) :
  Ye P ⟨d,.build t ps.toArray,ty,pos,af,g⟩ a E w (.agg ws.toArray) :=
 Ye.of fun w=>by
  unfold DN at hp;split at hp
  ·rename_i fs hu;obtain⟨z,hz1,hz2⟩:=Fa hz w;have h1:=GV (P:=P) (fun f=>do pure (f.offset,<- sizeOf f.type)) (fun f=>(P.info? f.type).map fun i=>(f.offset,i.size)) w (fun x y hy=>by
    cases hi:P.info? x.type with
    | none=>rw [hi] at hy; cases hy
    | some i=>rw [hi] at hy; simp only [mJ,cp] at hy; subst hy; simp [sizeOf,typeInfo,hi]) fs.toList pl hp
   have h2:(fs.mapM (m:=Sem) fun f=>do pure (f.offset,<- sizeOf f.type)).run P w = .ok pl.toArray w:=by
    rw [Array.mapM_eq_mapM_toList,Sem.run_map,h1]; rfl
   have h3:=Fu (place:=(pl.toArray[·]?)) (pl:=pl) (fun i q hq=>by simpa using hq) vs us zs ws hcs hf;have hzc:z.cells=zs.toArray:=by rw [<- hz1]
   have h4:(ps.toArray.map (fun p=>(p.1,a.eval p.2))).toList=vs:=by rw [<- I.evp hv]; simp
   have h5:(Instr.build t (ps.toArray.map (fun p=>(p.1,a.eval p.2)))).run P w = .ok (.agg ws.toArray) w:=by
    unfold Instr.build;simp only [Sem.run_bind,hz2,Result.andThen_ok,run_underlying hu,h2,hzc,h4,h3,Sem.run_pure]
   simp [execOp] at h5 ⊢;rw [h5]; rfl
  ·cases hp
end
end
section
open Go.RowKit
variable {c:Bool} {d i j k:Nat} {o oi oj:Oper} {r:cS} {t:Nat} {v:Value} {w0:World} {want:Bool}
section
variable {P:Program} {ops:Array Oper} {Q:Exit->Act->World->Prop} {md:Region.Mode} {E:Nat->Prop}
inductive Tn where
 | any
 | blk (o:Option Nat)
 | new (N:Nat)
 | bks (l:List (Option Nat))
def Et:Tn->Nat->Prop
 | .any,_=>True
 | .blk o,k=>o=some k
 | .new N,k=>N<=k
 | .bks l,k=>some k∈l
def Eo (l:List (Tn)) (k:Nat):Prop:=∃ e∈l,Et e k
def yL (mods:List (Nat×Tn)) (i:Nat):List (Tn):=(mods.filter fun p=>Nat.beq p.1 i).map (·.2)
def Oz (mods:List (Nat×Tn)) (i:Nat) (w w':World):Prop:=Kt (Eo (yL mods i)) w w'
def xc (ops:Array Oper) (listed:Array Bool) (i:Nat):Nat->Nat->Bool
 | 0,_=>false
 | n+1,j=>match ops[j]? with
  | some oj=>oj.after.any fun e=>Region.binds .any e&&(Nat.beq e.on i||(!listed.getD e.on true&&xc ops listed i n e.on))
  | none=>true
def CB (ops:Array Oper) (listed:Array Bool) (i j:Nat):Bool:=listed.getD j true||xc ops listed i 5 j
def rem (ops:Array Oper) (mods:List (Nat×Tn)) (listed:Array Bool) (i:Nat):List (Tn):=(mods.filter fun p=>!CB ops listed i p.1).map (·.2)
def tZ (P:Program) (ops:Array Oper) (Q:Exit->Act->World->Prop) (mods:List (Nat×Tn)):Nat->Array Bool->Act->World->Prop
 | 0,listed,a,w=>Region.ready .any ops listed=[]/\Q .normal a w
 | fuel+1,listed,a,w =>
  (Region.ready .any ops listed=[]->Q .normal a w) /\
  ∀ i∈Region.ready .any ops listed,wpOp P ops Q i (fun a' w'=>Oz mods i w w'/\tZ P ops Q mods fuel (listed.setIfInBounds i true) a' w') a w
theorem JG {mods:List (Nat×Tn)}:∀ (fuel:Nat) (listed:Array Bool) (a:Act) (w:World),tZ P ops Q mods fuel listed a w->wpAny P .any ops Q fuel listed a w
 | 0,_,_,_,h=>h
 | fuel+1,listed,a,w,h=>⟨h.1,fun i hi=>wpOp_mono (fun a w h=>JG fuel _ a w h.2) (h.2 i hi)⟩
theorem NJ {l:Array Bool} (h:l.getD i false=true):l.getD i true=true:=by
 rcases gD i l.size with h' | h'
 ·simp [h'] at h ⊢; exact h
 ·simp [Ov h'] at h
theorem Hl {listed:Array Bool} (hj:ops[j]? = some oj) (hall:∀ e∈oj.after,Region.binds .any e=true->listed.getD e.on false=true) (hno:∀ e∈oj.after,Region.binds .any e=true->e.on≠i):∀ n,xc ops listed i n j=false
 | 0=>rfl
 | n+1=>by
  cases h:xc ops listed i (n+1) j with
  | false=>rfl
  | true =>
   unfold xc at h;rw [hj] at h;dsimp only at h;obtain⟨e,he,hb⟩:=Ot.1 h;simp only [qj,yg,tI] at hb;rcases hb.2 with h1 | h1
   ·exact absurd (xf h1) (hno e he hb.1)
   ·rw [NJ (hall e he hb.1)] at h1; cases h1.1
theorem Lg {listed:Array Bool} (hj:ops[j]? = some oj) (hun:listed.getD j true=false) (hall:∀ e∈oj.after,Region.binds .any e=true->listed.getD e.on false=true) (hno:∀ e∈oj.after,Region.binds .any e=true->e.on≠i):CB ops listed i j=false:=by
 unfold CB;rw [hun,Hl hj hall hno]; rfl
theorem EY {listed:Array Bool} (hw:∀ n,xc ops listed i n j=false):∀ n k,xc ops listed i n k=true->xc ops (listed.setIfInBounds j true) i n k=true
 | 0,_,h=>h
 | n+1,k,h=>by
  unfold xc at h ⊢;cases O:ops[k]? with
  | none=>rfl
  | some ok =>
   rw [O] at h;dsimp only at h ⊢;obtain⟨e,he,hb⟩:=Ot.1 h;refine Ot.2 ⟨e,he,?_⟩;simp only [qj,yg,tI] at hb ⊢;refine⟨hb.1,?_⟩;rcases hb.2 with h1 | ⟨h1,h2⟩
   ·exact .inl h1
   ·by_cases hej:j=e.on
    ·rw [<- hej,hw n] at h2; cases h2
    ·exact .inr ⟨by rw [getD_set_ne true hej]; exact h1,EY hw n _ h2⟩
theorem J7 {listed:Array Bool} (hw:∀ n,xc ops listed i n j=false) (h:CB ops (listed.setIfInBounds j true) i k=false):CB ops listed i k=false:=by
 unfold CB at *;rw [Bool.or_eq_false_iff] at h ⊢;refine⟨?_,?_⟩
 ·have h1:=h.1;by_cases hjk:j=k
  ·subst hjk;by_cases hl:j<listed.size
   ·simp [hl] at h1
   ·simp [Ov (by omega:listed.size<=j)] at h1
  ·rw [getD_set_ne true hjk] at h1; exact h1
 ·cases h2:xc ops listed i 5 k with
  | false=>rfl
  | true=>rw [EY hw 5 k h2] at h; cases h.2
def YE (P:Program) (ops:Array Oper) (E:Nat->Prop) (w0:World) (o:Oper) (v:Value) (a:Act):Prop :=
 (Region.wanted o (yielded ops a.tmps)=true/\∀ w,Kt E w0 w->(execOp a.eval o).run P w = .ok (.value v) w) ∨
 (Region.wanted o (yielded ops a.tmps)=false/\v=undef)
theorem YE.wpOp {a:Act} (hi:ops[i]? = some o) (hy:YE P ops E w0 o v a)
  {K:Act->World->Prop} {w:World} (hw0:Kt E w0 w) (h:K (a.put o.dst v) w):wpOp P ops Q i K a w:=by
 unfold Go.wpOp;simp only [hi];rcases hy with⟨hw,hv⟩|⟨hw,rfl⟩
 ·simp only [hw,if_true,Oper.wp,hv w hw0,Oper.upon]; exact .inl h
 ·simp only [hw,E1,if_false]; exact h
theorem YE.of_same {a a':Act} (hy:YE P ops E w0 o v a) (he:execOp a'.eval o=execOp a.eval o)
  (hw:Region.wanted o (yielded ops a'.tmps)=Region.wanted o (yielded ops a.tmps)):YE P ops E w0 o v a':=by
 unfold YE at *;rw [he,hw];exact hy
theorem KG (hj:ops[j]? = some oj) (hap:oi.apart ops oj=true)
  (hsi:∀ cs b,oi.op ≠ .select cs b) (hsj:∀ cs b,oj.op ≠ .select cs b)
  (hQ:∀ c a w,Q (.panic c) (a.put oi.dst v) w->Q (.panic c) a w) {K:Act->World->Prop} {a:Act} {w:World}
  (hy:YE P ops E w0 oi v a) (h:wpOp P ops Q j K (a.put oi.dst v) w) :
  wpOp P ops Q j (fun a' w'=>YE P ops E w0 oi v a'/\K (a'.put oi.dst v) w') a w:=by
 obtain⟨h1,h2,h3⟩:=Oper.apart_spec hap;have keep:∀ (a:Act),YE P ops E w0 oi v a->∀ u,YE P ops E w0 oi v (a.put oj.dst u):=fun a hy u =>
  hy.of_same (execOp_put oi hsi a oj.dst u h3) (wanted_put oi a oj.dst u h3)
 have keepD:∀ d,YE P ops E w0 oi v { a with defers:=d::a.defers }:=fun d=>hy.of_same rfl rfl;unfold wpOp at *;simp only [hj] at *;rw [wanted_put oj a oi.dst v h1] at h;split
 ·rename_i hw;simp only [hw,if_true] at h;rcases h with h | ⟨hasks,hlets⟩
  case inr=>exact .inr ⟨by unfold Oper.asks at *; rw [execOp_put oj hsj a oi.dst v h1] at hasks; exact hasks,hlets⟩
  refine .inl ?_;unfold Oper.wp at *;rw [execOp_put oj hsj a oi.dst v h1] at h;generalize (execOp a.eval oj).run P w=r at *;cases r with
  | ok n w' =>
   cases n <;> simp only [Oper.upon] at h ⊢
   case value u=>exact⟨keep a hy u,by rw [<- Act.put_comm a v u h2]; exact h⟩
   case skip=>exact⟨keep a hy _,by rw [<- Act.put_comm a v undef h2]; exact h⟩
   case defer d =>
    refine⟨keep _ (keepD d) _,?_⟩;rw [<- Act.put_comm _ v undef h2,<- Act.put_defers];exact h
   case enter f args =>
    refine Calls.mono h fun e w'' he=>?_;cases e with
    | returned u=>exact⟨keep a hy u,by rw [<- Act.put_comm a v u h2]; exact he⟩
    | panicked c=>exact hQ _ _ _ he
    | outgrown=>exact he
   case row row args=>exact Rows.mono h fun u w'' he=>⟨keep a hy u,by rw [<- Act.put_comm a v u h2]; exact he⟩
  | halt x w' =>
   cases x <;> simp only [Oper.upon] at h ⊢
   case panic u=>exact hQ _ _ _ h
 ·rename_i hw;simp only [hw] at h;exact⟨keep a hy _,by rw [<- Act.put_comm a v undef h2]; exact h⟩
theorem KF {mods:List (Nat×Tn)} (hi:ops[i]? = some oi) (hsel:∀ (j:Nat) (o:Oper) cs b,ops[j]? = some o->o.op ≠ .select cs b)
  (hQ:∀ c a w,Q (.panic c) (a.put oi.dst v) w->Q (.panic c) a w) :
  ∀ (fuel:Nat) (listed:Array Bool) (a:Act) (w:World),
   (∀ j oj,ops[j]? = some oj->j≠i->listed.getD j true=false->(∀ e∈oj.after,Region.binds .any e=true->e.on≠i)->oi.apart ops oj=true) ->
   i∈Region.ready .any ops listed->(∀ p∈mods,CB ops listed i p.1=false->∀ k,Et p.2 k->E k)->YE P ops E w0 oi v a->Kt E w0 w ->
   tZ P ops Q mods fuel (listed.setIfInBounds i true) (a.put oi.dst v) w->tZ P ops Q mods (fuel+1) listed a w:=by
 intro fuel
 induction fuel with
 | zero =>
  intro listed a w _ hr _ hy hw0 H;refine⟨fun h=>(by rw [h] at hr; cases hr),fun j hj=>?_⟩;by_cases hji:j=i
  ·subst hji; exact hy.wpOp hi hw0 ⟨aj _ _,H⟩
  ·have:=ready_mono hj hji;rw [H.1] at this;cases this
 | succ fuel ih =>
  intro listed a w hfree hr hbef hy hw0 H;refine⟨fun h=>(by rw [h] at hr; cases hr),fun j hj=>?_⟩;by_cases hji:j=i
  ·subst hji; exact hy.wpOp hi hw0 ⟨aj _ _,H⟩
  ·have h1:=H.2 j (ready_mono hj hji);obtain⟨hjun,oj,hoj,hall⟩:=mem_ready.1 hj;have hnot:∀ e∈oj.after,Region.binds .any e=true->e.on≠i:=fun e he hb heq=>by
    have h1:=hall e he hb;have h0:=(mem_ready.1 hr).1;rw [heq] at h1;rcases gD i listed.size with h' | h'
    ·simp [h'] at h0 h1; rw [h0] at h1; cases h1
    ·simp [Ov h'] at h1
   have h2:=KG hoj (hfree j oj hoj hji hjun hnot) (fun cs b=>hsel i oi cs b hi) (fun cs b=>hsel j oj cs b hoj) hQ hy h1;have hfree':∀ k ok,ops[k]? = some ok->k≠i->(listed.setIfInBounds j true).getD k true=false ->
     (∀ e∈ok.after,Region.binds .any e=true->e.on≠i)->oi.apart ops ok=true:=fun k ok O hki hun hno=>by
    refine hfree k ok O hki ?_ hno;by_cases hjk:j=k
    ·subst hjk; exact hjun
    ·rw [getD_set_ne true hjk] at hun; exact hun
   refine wpOp_mono (fun a' w' h3=>⟨h3.2.1,ih (listed.setIfInBounds j true) a' w' hfree' (ready_mono hr (Ne.symm hji)) (fun p hp hd=>hbef p hp (J7 (Hl hoj hall hnot) hd)) h3.1 (hw0.trans ?_) ?_⟩) h2
   ·refine Kt.mono h3.2.1 fun k O=>?_;obtain⟨e,he,hek⟩:=O;obtain⟨p,hp,rfl⟩:=kC.1 he;rw [oB] at hp;have hpj:=xf hp.2;exact hbef p hp.1 (by rw [hpj]; exact Lg hoj hjun hall hnot) k hek
   ·rw [Array.setIfInBounds_comm _ _ hji];exact h3.2.2
theorem As {mods:List (Nat×Tn)} {l:List (Tn)} {fuel:Nat} {listed:Array Bool} {a:Act} {w:World} (hi:ops[i]? = some oi)
  (hs:Region.noSelect ops=true) (hf:Region.free .any ops listed i=true) (hr:(Region.ready .any ops listed).contains i=true) (hb:rem ops mods listed i=l)
  (hQ:∀ c a w,Q (.panic c) (a.put oi.dst v) w->Q (.panic c) a w) (hy:YE P ops (Eo l) w oi v a)
  (h:tZ P ops Q mods fuel (listed.setIfInBounds i true) (a.put oi.dst v) w):tZ P ops Q mods (fuel+1) listed a w :=
 KF hi (Region.noSelect_spec hs) hQ fuel listed a w (Region.free_spec hi hf) (by simpa using hr)
  (fun p hp hd k O=>⟨p.2,by rw [<- hb]; exact kC.2 ⟨p,oB.2 ⟨hp,by rw [hd]; rfl⟩,rfl⟩,O⟩) hy (aj _ _) h
theorem vO {mods:List (Nat×Tn)} {fuel:Nat} {listed:Array Bool} {a:Act} {w:World} (hi:ops[i]? = some oi) (hr:Region.ready .any ops listed=[i]) (hg:oi.guard=none)
  (h:sA P oi a w (fun a' w'=>Oz mods i w w'/\tZ P ops Q mods fuel (listed.setIfInBounds i true) a' w')):tZ P ops Q mods (fuel+1) listed a w:=by
 refine⟨fun h=>(by rw [h] at hr; cases hr),fun j hj=>?_⟩;rw [hr,dF] at hj;subst hj;unfold wpOp;rw [hi];simp only;rw [if_pos (by simp [Region.wanted,hg])];exact .inl (h _ _ fun a w h=>h)
theorem ey {mods:List (Nat×Tn)} {W:World} {M T:Nat->Prop} {n:Nat} {G:List (Nat×Value)} {D:List cS} {F:List cL} {fuel:Nat} {listed:Array Bool} {a:Act} {w:World} (hi:ops[i]? = some oi) (hr:Region.ready .any ops listed=[i]) (I:St W M T n G D F a w) (hg:oi.guard=some (j,want)) (hj:(ops[j]?).bind (·.dst)=some t) (ht:lk G t=some (.bool c)) (hc:c=want)
  (h:sA P oi a w (fun a' w'=>Oz mods i w w'/\tZ P ops Q mods fuel (listed.setIfInBounds i true) a' w')):tZ P ops Q mods (fuel+1) listed a w:=by
 refine⟨fun h=>(by rw [h] at hr; cases hr),fun k O=>?_⟩;rw [hr,dF] at O;subst O;unfold wpOp;rw [hi];simp only;rw [if_pos (by rw [s6 I hg hj ht,hc]; simp)];exact .inl (h _ _ fun a w h=>h)
theorem fa {mods:List (Nat×Tn)} {fuel:Nat} {listed:Array Bool} {a:Act} {w:World} (hi:ops[i]? = some oi) (hj:ops[j]? = some oj) (hr:Region.ready .any ops listed=[i,j]) (hg:oi.guard=none) (hg2:oj.guard=none)
  (h:sA P oi a w (fun a' w'=>Oz mods i w w'/\tZ P ops Q mods fuel (listed.setIfInBounds i true) a' w'))
  (h2:sA P oj a w (fun a' w'=>Oz mods j w w'/\tZ P ops Q mods fuel (listed.setIfInBounds j true) a' w')):tZ P ops Q mods (fuel+1) listed a w:=by
 refine⟨fun h=>(by rw [h] at hr; cases hr),fun k O=>?_⟩;rw [hr] at O;simp only [dX,fu,or_false] at O;rcases O with rfl | rfl
 ·unfold wpOp;rw [hi];simp only;rw [if_pos (by simp [Region.wanted,hg])];exact .inl (h _ _ fun a w h=>h)
 ·unfold wpOp;rw [hj];simp only;rw [if_pos (by simp [Region.wanted,hg2])];exact .inl (h2 _ _ fun a w h=>h)
theorem Hm {mods:List (Nat×Tn)} {listed:Array Bool} {a:Act} {w:World} (hr:Region.ready .any ops listed=[]) (h:Q .normal a w):∀ fuel,tZ P ops Q mods fuel listed a w
 | 0=>⟨hr,h⟩
 | _+1=>⟨fun _=>h,fun i hi=>by rw [hr] at hi; cases hi⟩
theorem iJ {mods:List (Nat×Tn)} {w w':World} (h:Kt No w w'):Oz mods i w w':=h.no
theorem lw {mods:List (Nat×Tn)} {w w':World} {e:Tn} {E:Nat->Prop} (hm:yL mods i=[e]) (h:Kt E w w') (he:∀ k,E k->Et e k):Oz mods i w w' :=
 h.mono fun k O=>⟨e,by rw [hm]; exact dF.2 rfl,he k O⟩
theorem tP {E:Nat->Prop}:∀ k,E k->Et .any k:=fun _ _=>trivial
theorem jW {b:Nat}:∀ k,k=b->Et (.blk (some b)) k:=fun _ h=>congrArg some h.symm
theorem kL:∀ k,v.ownBlock=some k->Et (.blk v.ownBlock) k:=fun _ h=>h
theorem rL {b N:Nat} (h:N<=b):∀ k,Et (.blk (some b)) k->Et (.new N) k:=fun k O=>by
 have O:some b=some k:=O;injection O with O;subst O; exact h
def Uw (mods:List (Nat×Tn)) (i:Nat) (e:Tn):List (Nat×Tn):=mods.map fun p=>if Nat.beq p.1 i then (i,e) else p
theorem JH {mods mods':List (Nat×Tn)} (h:∀ i k,Eo (yL mods' i) k->Eo (yL mods i) k):∀ (fuel:Nat) (listed:Array Bool) (a:Act) (w:World),tZ P ops Q mods' fuel listed a w->tZ P ops Q mods fuel listed a w
 | 0,_,_,_,H=>H
 | fuel+1,_,_,_,H=>⟨H.1,fun i hi=>wpOp_mono (fun a w h1=>⟨h1.1.mono (h i),JH h fuel _ a w h1.2⟩) (H.2 i hi)⟩
theorem eR {mods:List (Nat×Tn)} {fuel:Nat} {listed:Array Bool} {a:Act} {w:World} (i:Nat) (e e0:Tn) (hm:yL mods i=[e0]) (hs:∀ k,Et e k->Et e0 k) (H:tZ P ops Q (Uw mods i e) fuel listed a w):tZ P ops Q mods fuel listed a w:=by
 refine JH (fun j k O=>?_) _ _ _ _ H;obtain⟨x,hx,hxk⟩:=O;unfold yL at hx;obtain⟨p,hp,rfl⟩:=kC.1 hx;rw [oB] at hp;obtain⟨hp1,hp2⟩:=hp;unfold Uw at hp1;obtain⟨q,hq,rfl⟩:=kC.1 hp1;by_cases hqi:Nat.beq q.1 i=true
 ·rw [if_pos hqi] at hp2 hxk;have hij:i=j:=xf hp2;subst hij;exact⟨e0,by rw [hm]; exact dF.2 rfl,hs k hxk⟩
 ·rw [if_neg hqi] at hp2 hxk;exact⟨q.2,kC.2 ⟨q,oB.2 ⟨hq,hp2⟩,rfl⟩,hxk⟩
theorem Hn {id:Nat} {a:Act} {w:World} (mods:List (Nat×Tn)) (hm:P.follows .mixedOrders=true) (h:tZ P ops Q mods ops.size (Array.replicate ops.size false) a w.drew):(Code.region id ops true).wp P Q a w :=
 wp_region_any hm (JG _ _ _ _ h)
end
section
variable {P:Program} {W:World} {M T E:Nat->Prop} {n:Nat} {G G':List (Nat×Value)} {D D':List cS} {F F':List cL} {a:Act} {w w':World} {ops:Array Oper} {Q:Exit->Act->World->Prop} {fuel:Nat} {listed:Array Bool} {mods:List (Nat×Tn)}
def Qp (Q:Exit->Act->World->Prop):Prop:=∀ c a d v w,Q (.panic c) (a.put d v) w->Q (.panic c) a w
theorem O5 {id:Nat} {l:List Oper} {N:Nat} (mods:List (Nat×Tn)) (I:St W M T n G D F a w) (hm:P.follows .mixedOrders=true) (hN:l.length=N) (hQ:Qp Q) (h:∀ w,Qp Q->St W M T n G D F a w->tZ P l.toArray Q mods N (Array.replicate N false) a w):(Code.region id l.toArray true).wp P Q a w:=by
 refine Hn mods hm ?_;rw [F9,hN];exact h _ hQ (I.later (Kt.drew w))
theorem dy {l:List (Tn)} (i:Nat) (hi:ops[i]? = some o) (hs:Region.noSelect ops=true) (hf:Region.free .any ops listed i=true) (hr:(Region.ready .any ops listed).contains i=true) (hb:rem ops mods listed i=l) (hQ:Qp Q) (I:St W M T n G D F a w) (h:Ye P o a (Eo l) w v) (hg:o.guard=none) (hd:o.dst=some d) (hn:Nat.blt d n=true)
  (k:∀ a,St W M T n ((d,v)::G) D F a w->tZ P ops Q mods fuel (listed.setIfInBounds i true) a w):tZ P ops Q mods (fuel+1) listed a w :=
 As hi hs hf hr hb (fun c a w=>hQ c a _ _ w) (.inl ⟨by simp [Region.wanted,hg],h⟩) (by rw [hd]; exact k _ (I.put hn v))
theorem Ul {l:List (Tn)} (i:Nat) (hi:ops[i]? = some o) (hs:Region.noSelect ops=true) (hf:Region.free .any ops listed i=true) (hr:(Region.ready .any ops listed).contains i=true) (hb:rem ops mods listed i=l) (hQ:Qp Q) (I:St W M T n G D F a w) (h:Ye P o a (Eo l) w v) (hg:o.guard=some (j,want)) (hj:(ops[j]?).bind (·.dst)=some t) (ht:lk G t=some (.bool c)) (hc:c=want) (hd:o.dst=some d) (hn:Nat.blt d n=true)
  (k:∀ a,St W M T n ((d,v)::G) D F a w->tZ P ops Q mods fuel (listed.setIfInBounds i true) a w):tZ P ops Q mods (fuel+1) listed a w :=
 As hi hs hf hr hb (fun c a w=>hQ c a _ _ w) (.inl ⟨by rw [s6 I hg hj ht,hc]; simp,h⟩) (by rw [hd]; exact k _ (I.put hn v))
theorem UB (i:Nat) (hi:ops[i]? = some o) (hs:Region.noSelect ops=true) (hf:Region.free .any ops listed i=true) (hr:(Region.ready .any ops listed).contains i=true) (hQ:Qp Q) (I:St W M T n G D F a w) (hg:o.guard=some (j,want)) (hj:(ops[j]?).bind (·.dst)=some t) (ht:lk G t=some (.bool c)) (hc:c = !want) (hd:o.dst=some d) (hn:Nat.blt d n=true)
  (k:∀ a,St W M T n ((d,undef)::G) D F a w->tZ P ops Q mods fuel (listed.setIfInBounds i true) a w):tZ P ops Q mods (fuel+1) listed a w :=
 As (v:=undef) hi hs hf hr rfl (fun c a w=>hQ c a _ _ w) (.inr ⟨by rw [s6 I hg hj ht,hc]; cases want <;> simp,rfl⟩) (by rw [hd]; exact k _ (I.put hn undef))
theorem TX (i:Nat) (hi:ops[i]? = some o) (hs:Region.noSelect ops=true) (hf:Region.free .any ops listed i=true) (hr:(Region.ready .any ops listed).contains i=true) (hQ:Qp Q) (I:St W M T n G D F a w) (hg:o.guard=some (j,want)) (hj:(ops[j]?).bind (·.dst)=some t) (ht:lk G t=some undef) (hd:o.dst=some d) (hn:Nat.blt d n=true)
  (k:∀ a,St W M T n ((d,undef)::G) D F a w->tZ P ops Q mods fuel (listed.setIfInBounds i true) a w):tZ P ops Q mods (fuel+1) listed a w :=
 As (v:=undef) hi hs hf hr rfl (fun c a w=>hQ c a _ _ w) (.inr ⟨by
  have h1:=I.slots t _ ht;unfold Region.wanted yielded;rw [hg];simp only [hj,ad,h1];rfl,rfl⟩) (by rw [hd]; exact k _ (I.put hn undef))
theorem cc:¬ Eo [] k:=fun ⟨_,h,_⟩=>by cases h
theorem I5 {e:Tn} {l:List Tn} (h1:¬ Et e k) (h:¬ Eo l k):¬ Eo (e::l) k:=fun ⟨e,he,O⟩=>by
 rcases dX.1 he with rfl | he
 ·exact h1 O
 ·exact h ⟨e,he,O⟩
theorem iU {l:List Tn} {o:Option Nat} {r':cS} (I:St W M T n G D F a w) (i:Nat) (hi:D[i]? = some r) (hr:r.dom k) (j:Nat) (hj:D[j]? = some r') (hd:r'.dom=fun k=>o=some k) (hij:i≠j) (h:¬ Eo l k):¬ Eo (.blk o::l) k:=I5 (fun O=>by
 have O:o=some k:=O;obtain⟨l1,e1⟩:=cu.1 hi;obtain⟨l2,e2⟩:=cu.1 hj;rcases y7 hij with hlt | hlt
 ·exact gC.1 I.apart i j l1 l2 hlt k (by rw [e1]; exact hr) (by rw [e2,hd]; exact O)
 ·exact gC.1 I.apart j i l2 l1 hlt k (by rw [e2,hd]; exact O) (by rw [e1]; exact hr)) h
def Nq:cS->Option Nat
 | .box b _ _=>some b
 | .own v _ _ _=>v.ownBlock
 | .obj b _=>some b
 | .grp _=>none
def O9:cS->Bool
 | .grp _=>false
 | _=>true
theorem KQ (h:O9 r=true) (O:r.dom k):Nq r=some k:=by cases r <;> first | exact O | cases h
theorem GC (h:Nq r=some k):r.dom k:=by cases r <;> first | exact h | cases h
theorem GD {D0:List cS} {l:List (Option Nat)} (h:D0.map Nq=l) (hg:D0.all O9=true):∀ k,(∃ r∈D0,r.dom k)->Et (.bks l) k:=fun k ⟨r,hr,O⟩=>by
 subst h;exact kC.2 ⟨r,hr,KQ (List.all_eq_true.1 hg r hr) O⟩
theorem AL {l:List (Option Nat)}:∀ k,(∃ r∈([]:List cS),r.dom k)->Et (.bks l) k:=fun k ⟨r,hr,_⟩=>by cases hr
theorem CH {l:List Tn} {bs:List (Option Nat)} (I:St W M T n G D F a w) (i:Nat) (hi:D[i]? = some r) (hr:r.dom k) (js:List Nat) (hl:(js.map fun j=>(D[j]?).bind Nq)=bs) (hn:js.contains i=false) (h:¬ Eo l k):¬ Eo (.bks bs::l) k:=I5 (fun O=>by
 subst hl;obtain⟨j,hj,e⟩:=kC.1 (show some k∈_ from O);obtain⟨r',h1,h2⟩:=Option.bind_eq_some_iff.1 e;have hij:i≠j:=fun e=>by subst e; rw [List.contains_eq_mem,decide_eq_false_iff_not] at hn; exact hn hj
 obtain⟨l1,e1⟩:=cu.1 hi;obtain⟨l2,e2⟩:=cu.1 h1;rcases y7 hij with hlt | hlt
 ·exact gC.1 I.apart i j l1 l2 hlt k (by rw [e1]; exact hr) (by rw [e2]; exact GC h2)
 ·exact gC.1 I.apart j i l2 l1 hlt k (by rw [e2]; exact GC h2) (by rw [e1]; exact hr)) h
theorem Ft:∀ k,Eo [] k->dT T D k∨w.heap.size<=k:=fun _ ⟨_,h,_⟩=>by cases h
theorem NH {e:Tn} {l:List Tn} (h1:∀ k,Et e k->dT T D k∨w.heap.size<=k) (h:∀ k,Eo l k->dT T D k∨w.heap.size<=k):∀ k,Eo (e::l) k->dT T D k∨w.heap.size<=k:=fun k ⟨e,he,O⟩=>by
 rcases dX.1 he with rfl | he
 ·exact h1 k O
 ·exact h k ⟨e,he,O⟩
theorem Lj {l:List Tn} {o:Option Nat} {r':cS} (j:Nat) (hj:D[j]? = some r') (hd:r'.dom=fun k=>o=some k) (h:∀ k,Eo l k->dT T D k∨w.heap.size<=k):∀ k,Eo (.blk o::l) k->dT T D k∨w.heap.size<=k:=NH (fun k O=>.inl (.inr ⟨r',aD hj,by rw [hd]; exact O⟩)) h
def KH (N:Nat):cL:=⟨fun _ w=>N<=w.heap.size,fun h k _=>cN h k.size⟩
end
end
section
open Go.RowKit
variable {R S:Type} {ag:Bool} {args:Array Operand} {b:Bool} {d:Nat} {e:TypeId} {f:Nat} {i:Int} {α:Type} {r:α} {s:S} {t ty:TypeId} {tys:Array TypeId} {v:Value} {vs:bK} {x y:α}
variable {pos:String} {af:Array Edge} {g:Option (Nat×Bool)}
def uV (xs:List α) (lo hi:Int):Option (List α):=if 0<=lo/\lo<=hi/\hi<=xs.length then some ((xs.take hi.toNat).drop lo.toNat) else none
def ln (s:ByteArray) (lo hi:Int):Option ByteArray:=if 0<=lo/\lo<=hi/\hi<=s.size then some (s.extract lo.toNat hi.toNat) else none
def ce (n:Nat):Bool:=Nat.ble n 4294967296
theorem Dh {n:Nat} (h:ce n=true):n<=4294967296:=cw h
def gd (b:Bool) (x:Option α):Option α:=cond b x none
theorem aP {x:Option α} (h:gd b x=some y):b=true/\x=some y:=by cases b with
 | true=>exact⟨rfl,h⟩
 | false=>cases h
theorem bd {β:Type} {o:Option α} {k:α->Option β} {y:β} (h:o.bind k=some y):∃ u,o=some u/\k u=some y:=Option.bind_eq_some_iff.1 h
theorem ct (hb:b=true) (h:cond b x y=r):x=r:=by subst hb; exact h
theorem cf (hb:b=false) (h:cond b x y=r):y=r:=by subst hb; exact h
theorem on:∀ u∈([]:bK),u.oneCell'=true:=fun u hu=>by cases hu
theorem oc {l:bK} (h:v.oneCell'=true) (k:∀ u∈l,u.oneCell'=true):∀ u∈v::l,u.oneCell'=true:=fun u hu=>by
 rcases dX.1 hu with rfl | hu
 ·exact h
 ·exact k u hu
inductive Fl (S R:Type) where
 | go (s:S)
 | out (r:R)
def CN (body:S->Option (Fl S R)):Nat->S->Option R
 | 0,_=>none
 | n+1,s=>match body s with
  | none=>none
  | some (.out r)=>some r
  | some (.go s')=>CN body n s'
theorem GM {body:S->Option (Fl S R)}:∀ {n m:Nat} {s:S} {r q:R},CN body n s=some r->CN body m s=some q->r=q
 | 0,_,_,_,_,h,_=>by cases h
 | _,0,_,_,_,_,h=>by cases h
 | n+1,m+1,s,r,q,h,k=>by
  simp only [CN] at h k;cases hb:body s with
  | none=>rw [hb] at h; cases h
  | some f =>
   rw [hb] at h k;cases f with
   | out u=>simp only [cp] at h k; rw [<- h,<- k]
   | go u=>exact GM h k
open Classical in
noncomputable def loop (body:S->Option (Fl S R)) (s:S):Option R:=if h:∃ r n,CN body n s=some r then some h.choose else none
theorem zM {body:S->Option (Fl S R)} {r:R}:loop body s=some r↔∃ n,CN body n s=some r:=by
 unfold loop;split
 ·rename_i h;obtain⟨n,hn⟩:=h.choose_spec;constructor
  ·intro e; simp only [cp] at e; rw [<- e]; exact⟨n,hn⟩
  ·rintro⟨m,hm⟩; rw [GM hn hm]
 ·rename_i h;constructor
  ·intro e; cases e
  ·rintro⟨m,hm⟩; exact absurd ⟨r,m,hm⟩ h
theorem zL {body:S->Option (Fl S R)} {s':S} (h:body s=some (.go s')):loop body s=loop body s':=by
 apply Option.ext;intro r;rw [zM,zM];constructor
 ·rintro⟨n,hn⟩;cases n with
  | zero=>cases hn
  | succ n=>simp only [CN,h] at hn; exact⟨n,hn⟩
 ·rintro⟨n,hn⟩; exact⟨n+1,by simp only [CN,h]; exact hn⟩
theorem pD {body:S->Option (Fl S R)} {r:R} (h:body s=some (.out r)):loop body s=some r:=zM.2 ⟨1,by simp only [CN,h]⟩
section
variable {P:Program} {W:World} {M T E:Nat->Prop} {n:Nat} {G G':List (Nat×Value)} {D D':List cS} {F F':List cL} {a:Act} {w w':World} {K:Act->World->Prop} {Q:Exit->Act->World->Prop}
theorem bH {c:Code} (body:S->Option (Fl S R)) (I:S->Act->World->Prop) {s0:S} {r:R} (hl:loop body s0=some r) (h0:I s0 a w)
  (round:∀ s a w f,I s a w->body s=some f->(∀ u,f = .out u->u=r)->c.wp P (Exit.then (fun a' w'=>∃ s',f = .go s'/\I s' a' w') Q) a w):(Code.loop c).wp P Q a w:=by
 obtain⟨N,hN⟩:=zM.1 hl;intro b k cs;have key:∀ N s a w,CN body N s=some r->I s a w->∃ e a' w',Q e a' w'/\Arrives P (lone (b.at a (.code c :: .inLoop c::k)) cs w) b k cs e a' w':=by
  intro N
  induction N with
  | zero=>intro s a w h; cases h
  | succ N ih =>
   intro s a w h hI;simp only [CN] at h;cases hb:body s with
   | none=>rw [hb] at h; cases h
   | some f =>
    rw [hb] at h;obtain⟨e,a₁,w₁,hq,harr⟩:=round s a w f hI hb (fun u hu=>by subst hu; simp only [cp] at h; exact h) b (.inLoop c::k) cs;cases e with
    | normal =>
     obtain⟨s',hf,hI'⟩:=hq;subst hf;obtain⟨e₂,a₂,w₂,hq₂,harr₂⟩:=ih s' a₁ w₁ h hI';exact⟨e₂,a₂,w₂,hq₂,.of_steps (Steps.trans harr (.one step_inLoop)) harr₂⟩
    | exit id=>exact⟨_,a₁,w₁,hq,.pass (x:=.inLoop c) rfl (fun _ _=>.inl (by simp)) harr⟩
    | goto l=>exact⟨_,a₁,w₁,hq,.pass (x:=.inLoop c) rfl (fun _ _=>.inl (by simp)) harr⟩
    | ret=>exact⟨_,a₁,w₁,hq,.pass (x:=.inLoop c) rfl (fun _ _=>.inl (by simp)) harr⟩
    | panic ch=>exact⟨_,a₁,w₁,hq,.pass (x:=.inLoop c) rfl (fun _ _=>.inl (by simp)) harr⟩
    | outgrown=>exact⟨_,a₁,w₁,hq,.pass (x:=.inLoop c) rfl (fun _ _=>.inl (by simp)) harr⟩
 obtain⟨e,a',w',hq,harr⟩:=key N s0 a w hN h0;exact⟨e,a',w',hq,.of_steps (.one step_loop) harr⟩
theorem aN {x y:Code} (J:Act->World->Prop) (h1:x.wp P (Exit.then J Q) a w) (h2:∀ a w,J a w->y.wp P Q a w):(Code.seq x y).wp P Q a w :=
 wp_seq (wp_mono h1 fun e a w h=>by cases e <;> first | exact h2 a w h | exact h)
theorem Uj {c:Operand} {x y:Code} (I:St W M T n G D F a w) (hc:ev G c=some (.bool b)) (hb:b=true) (h:x.wp P Q a w):(Code.cond c x y).wp P Q a w:=wp_cond_true (by rw [I.ev hc,hb]) h
theorem Tp {c:Operand} {x y:Code} (I:St W M T n G D F a w) (hc:ev G c=some (.bool b)) (hb:b=false) (h:y.wp P Q a w):(Code.cond c x y).wp P Q a w:=wp_cond_false (by rw [I.ev hc,hb]) h
theorem Ib {id:Nat} {l:List Oper} (h:wpList P l.toArray Q l a w):(Code.region id l.toArray false).wp P Q a w:=wp_region_lit h
def xO (P:Program) (a:Act) (w:World):List ResultVar->bK->Prop
 | [],[]=>True
 | .tmp t::r,v::vs=>a.tmps.getD t undef=v/\xO P a w r vs
 | .cell c t::r,v::vs=>(∃ p,a.tmps.getD c undef = .pointer (some p)/\(loadVar t p).run P w = .ok v w)/\xO P a w r vs
 | _,_=>False
def Qn:bK->Value
 | [v]=>v
 | vs=>.tuple vs.toArray
def MF (tmps:Array Value):ResultVar->Sem Value
 | .tmp t=>pure (tmps.getD t undef)
 | .cell c t=>do loadVar t (<- asAddr (tmps.getD c undef))
theorem FR:∀ {rs:List ResultVar} {vs:bK},xO P a w rs vs->(rs.mapM (MF a.tmps)).run P w = .ok vs w
 | [],[],_=>by simp
 | [],v::vs,h=>h.elim
 | .tmp t::r,[],h=>h.elim
 | .cell c t::r,[],h=>h.elim
 | .tmp t::r,v::vs,h=>by
  obtain⟨h1,h2⟩:=h;have U:(MF a.tmps (.tmp t)).run P w = .ok v w:=by
   show (pure (a.tmps.getD t undef):Sem Value).run P w=_;rw [h1]; rfl
  rw [List.mapM_cons,Sem.run_bind,U,Result.andThen_ok,Sem.run_bind,FR h2]; rfl
 | .cell c t::r,v::vs,h=>by
  obtain⟨⟨p,h0,h1⟩,h2⟩:=h;have U:(MF a.tmps (.cell c t)).run P w = .ok v w:=by
   unfold MF;simp only;have:(asAddr (a.tmps.getD c undef)).run P w = .ok p w:=by rw [h0]; rfl
   rw [Sem.run_bind,this,Result.andThen_ok,h1]
  rw [List.mapM_cons,Sem.run_bind,U,Result.andThen_ok,Sem.run_bind,FR h2]; rfl
theorem If (fn:Func) (tmps:Array Value):results fn tmps=(do
  let vs <- fn.results.mapM (MF tmps)
  pure (if h:vs.size=1 then vs[0] else .tuple vs)):=rfl
theorem aH {fn:Func} {R:Value->World->Prop} {rs:List ResultVar} (I:St W M T n G D F a w) (hr:fn.results=rs.toArray) (h:xO P a w rs vs) (C:R (Qn vs) w):bodyPost P fn (QW M W R) .ret a w:=by
 refine⟨I.defers,Qn vs,?_,Qn vs,rfl,I.base,C⟩;have h1:=FR h;rw [If,hr,Array.mapM_eq_mapM_toList,Sem.run_bind,Sem.run_map,h1];cases vs with
 | nil=>rfl
 | cons v r =>
  cases r with
  | nil=>rfl
  | cons u s =>
   show Sem.run P (pure (if h:(u::s).length+1=1 then _ else _)) w=_;rw [dif_neg (by simp)];rfl
theorem aF:xO P a w [] []:=trivial
theorem aw {t:Nat} {r:List ResultVar} (I:St W M T n G D F a w) (hv:lk G t=some v) (h:xO P a w r vs):xO P a w (.tmp t::r) (v::vs) :=
 ⟨by have:=I.slots t v hv; simp [QH,this],h⟩
theorem bB {c:Nat} {b:Nat} {cs:bK} {bt:TypeId} {z:Nat} {r:List ResultVar} (I:St W M T n G D F a w) (hv:lk G c=some (.pointer (some ⟨b,0,none⟩))) (i:Nat) (hi:D[i]? = some (.box b cs bt)) (ht:qT P t=some (ag,z)) (hl:cs.length=z) (hz:ag=false->z=1) (h:xO P a w r vs):xO P a w (.cell c t::r) (bL ag cs::vs):=by
 have hr:w.heap[b]? = some (.cells cs.toArray bt (0,0)):=I.own _ (aD hi);refine⟨⟨⟨b,0,none⟩,by have:=I.slots c _ hv; simp [QH,this],?_⟩,h⟩;exact ES ht hl rfl hz w (fun j u hj=>by rw [cell_of_row _ _ _ _ _ _ hr,List.getElem?_toArray,pa]; exact hj)
theorem St.adds (h:St W M T n G D F a w) (k:Kt No w w'):∀ (rs:List cS),(∀ r∈rs,r.ok w'/\∀ k,r.dom k->w.heap.size<=k)->(rs.Pairwise fun r s=>∀ k,r.dom k->¬ s.dom k)->St W M T n G (rs++D) F a w'
 | [],_,_=>h.later k
 | r::rs,hr,hp=>by
  obtain⟨hp1,hp2⟩:=vT.1 hp;have ih:=St.adds h k rs (fun s hs=>hr s (yl _ hs)) hp2;obtain⟨q1,q2⟩:=hr r xk;refine⟨ih.size,ih.defers,ih.slots,ih.base,?_,?_,?_,fun f hf=>f.keep (h.facts f hf) k.no (fun j hj=>?_),ih.tlt⟩
  ·intro s hs;rcases dX.1 hs with rfl | hs
   ·exact q1
   ·exact ih.own s hs
  ·intro s hs j hj;rcases dX.1 hs with rfl | hs
   ·have:=q2 j hj;refine⟨fun ht=>?_,.inr ?_⟩
    ·have:=h.tlt j ht; omega
    ·have:=h.base.size; omega
   ·exact ih.free s hs j hj
  ·refine vT.2 ⟨fun s hs j hj hj2=>?_,ih.apart⟩;rcases dw.1 hs with hs | hs
   ·exact hp1 s hs j hj hj2
   ·have:=q2 j hj;have:=cS.lt (h.own s hs) j hj2;omega
  ·rcases hj with hj | ⟨s,hs,hj⟩
   ·exact .inl (.inl hj)
   ·rcases dX.1 hs with rfl | hs
    ·exact .inr (q2 j hj)
    ·rcases dw.1 hs with hs | hs
     ·exact .inr ((hr s (yl _ hs)).2 j hj)
     ·exact .inl (.inr ⟨s,hs,hj⟩)
theorem kv {w0:World} {r:cS} (h:r.ok w') (hf:∀ k,r.dom k->w0.heap.size<=k):∀ s∈[r],s.ok w'/\∀ k,s.dom k->w0.heap.size<=k:=fun s hs=>by
 rw [dF] at hs; subst hs; exact⟨h,hf⟩
theorem QY {w0:World} {r s:cS} (h:r.ok w') (hf:∀ k,r.dom k->w0.heap.size<=k) (h2:s.ok w') (hf2:∀ k,s.dom k->w0.heap.size<=k):∀ q∈[r,s],q.ok w'/\∀ k,q.dom k->w0.heap.size<=k:=fun q hq=>by
 simp only [dX,fu,or_false] at hq;rcases hq with rfl | rfl
 ·exact⟨h,hf⟩
 ·exact⟨h2,hf2⟩
theorem AD (r:cS):[r].Pairwise fun r s=>∀ k,r.dom k->¬ s.dom k:=List.pairwise_singleton _ _
theorem UE {r s:cS} (h:∀ k,r.dom k->¬ s.dom k):[r,s].Pairwise fun r s=>∀ k,r.dom k->¬ s.dom k:=by
 simp only [vT,dF,forall_eq,fu,false_implies,implies_true,sD,and_true];exact h
theorem qo {T:Nat->Prop} {D rs:List cS} (w:World):Nw (dT (dT T D) rs) (dT T (rs++D)) w:=fun k O=>.inl (by
 rcases O with O | ⟨r,hr,O⟩
 ·exact .inl (.inl O)
 ·rcases dw.1 hr with hr | hr
  ·exact .inr ⟨r,hr,O⟩
  ·exact .inl (.inr ⟨r,hr,O⟩))
def Gh (F:List cL):List cL->Prop
 | []=>True
 | f::r=>(∃ i:Nat,F[i]? = some f)/\Gh F r
theorem Gh.mem {F:List cL}:∀ {F':List cL},Gh F F'->∀ f∈F',f∈F
 | [],_,f,hf=>by cases hf
 | g::r,h,f,hf=>by
  rcases dX.1 hf with rfl | hf
  ·obtain⟨⟨i,hi⟩,_⟩:=h; exact aD hi
  ·exact Gh.mem h.2 f hf
def pq (D:List cS):List Nat->List cS->Prop
 | [],[]=>True
 | i::r,d::s=>D[i]? = some d/\pq D r s
 | _,_=>False
theorem pq.get {D:List cS}:∀ {is:List Nat} {D':List cS},pq D is D'->∀ d∈D',∃ i∈is,D[i]? = some d
 | [],[],_,d,hd=>by cases hd
 | [],_::_,h,_,_=>h.elim
 | _::_,[],h,_,_=>h.elim
 | i::r,e::s,h,d,hd=>by
  rcases dX.1 hd with rfl | hd
  ·exact⟨i,xk,h.1⟩
  ·obtain⟨j,hj,h2⟩:=pq.get h.2 d hd; exact⟨j,yl _ hj,h2⟩
theorem pq.pw {D:List cS} (hp:D.Pairwise fun r s=>∀ k,r.dom k->¬ s.dom k):∀ {is:List Nat} {D':List cS},pq D is D'->is.Nodup->D'.Pairwise fun r s=>∀ k,r.dom k->¬ s.dom k
 | [],[],_,_=>sD
 | [],_::_,h,_=>h.elim
 | _::_,[],h,_=>h.elim
 | i::r,e::s,h,hn=>by
  obtain⟨n1,n2⟩:=A9.1 hn;refine vT.2 ⟨fun d hd k O hk2=>?_,pq.pw hp h.2 n2⟩;obtain⟨j,hj,h2⟩:=pq.get h.2 d hd;have hij:i≠j:=fun e=>n1 (e▸hj);obtain⟨l1,e1⟩:=cu.1 h.1;obtain⟨l2,e2⟩:=cu.1 h2;rcases y7 hij with hlt | hlt
  ·exact gC.1 hp i j l1 l2 hlt k (by rw [e1]; exact O) (by rw [e2]; exact hk2)
  ·exact gC.1 hp j i l2 l1 hlt k (by rw [e2]; exact hk2) (by rw [e1]; exact O)
theorem St.meet (h:St W M T n G D F a w) (is:List Nat) (hn:is.Nodup) (hG:OA G G') (hD:pq D is D') (hF:Gh F F'):St W M T n G' D' F' a w :=
 ((h.slot hG).sel hF.mem).res (fun r hr=>by obtain⟨i,_,hi⟩:=hD.get r hr; exact aD hi) (hD.pw h.apart hn)
theorem nt (h:b=true):(!b)=false:=by rw [h]; rfl
theorem nf (h:b=false):(!b)=true:=by rw [h]; rfl
def Fl.el (f:Fl S R) (g:S->α) (h:R->α):α:=match f with
 | .go s=>g s
 | .out r=>h r
theorem Sa {g:S->α} {h:R->α} (e:Fl.el (.go s) g h=r):g s=r:=e
theorem mP {s:R} {g:S->α} {h:R->α} (e:Fl.el (.out s) g h=r):h s=r:=e
def aS (P:Program) (f:Nat):Bool:=match P.funcs[f]? with
 | some fn => !(fn.name == "runtime.NumGoroutine") && fn.body.isSome
 | none=>false
theorem Gq (hf:aS P f=true) (args:Array Value) (w:World):(callFunc f args).run P w = .ok (.enter f args) w:=by
 unfold aS at hf;split at hf
 ·rename_i fn hfn;simp only [qj, tI] at hf;obtain⟨b, hb⟩ := Option.isSome_iff_exists.1 hf.2;have h1 : ¬ (fn.name == "runtime.NumGoroutine") = true := by rw [hf.1]; simp
  simp [callFunc,hfn,hb,h1];simpa using h1
 ·cases hf
theorem xp {o:Oper} {x:Operand} {cap:bK} {R:Value->World->Prop} {M':Nat->Prop} (ho:o.op = .call { callee:=.value x,args:=args,argTypes:=tys }) (I:St W M T n G D F a w) (hx:ev G x=some (.func (.func f) #[] cap.toArray)) (hf:aS P f=true) (hargs:evs G args.toList=some vs) (hc:bj P M' f (vs++cap) w R)
  (k:∀ v w',Kt M' w w'->R v w'->K (a.put o.dst v) w'):sA P o a w K:=fun K' Q hK=>by
 have h1:(args.map a.eval)=vs.toArray:=by
  apply HG.1;rw [JJ,I.evs hargs]
 have hr:(execOp a.eval o).run P w = .ok (.enter f (vs++cap).toArray) w:=by
  simp [execOp,ho,resolve,I.ev hx,Deferred.ofValue,invoke,h1,Gq hf]
 unfold Oper.wp;rw [hr,Oper.upon_enter];exact Calls.mono hc fun e w' ⟨v,h1,h2,h3⟩=>by subst h1; exact hK _ _ (k v w' h2 h3)
theorem bP {R:Value->World->Prop} (I:St W M T n G D F a w) (hf:aS P f=true) (hargs:evs G args.toList=some vs) (hn:Nat.blt d n=true) (hc:bj P No f vs w R)
  (k:∀ v w',R v w'->∀ a,Kt No w w'->(∀ rs:List cS,(∀ r∈rs,r.ok w'/\∀ k,r.dom k->w.heap.size<=k)->(rs.Pairwise fun r s=>∀ k,r.dom k->¬ s.dom k)->St W M T n ((d,v)::G) (rs++D) F a w')->K a w'):sA P ⟨some d,.call { callee:=.value (.func f),args:=args,argTypes:=tys },ty,pos,af,g⟩ a w K :=
 xp (cap:=[]) rfl I rfl hf hargs (by rw [Ax]; exact hc) fun v w' O hr=>k v w' hr _ O (fun rs h1 h2=>(I.adds O rs h1 h2).put hn v)
theorem Jc {x:Operand} {cap:bK} {R:Value->World->Prop} (I:St W M T n G D F a w) (hx:ev G x=some (.func (.func f) #[] cap.toArray)) (hf:aS P f=true) (hargs:evs G args.toList=some vs) (hn:Nat.blt d n=true) (hc:bj P No f (vs++cap) w R)
  (k:∀ v w',R v w'->∀ a,Kt No w w'->(∀ rs:List cS,(∀ r∈rs,r.ok w'/\∀ k,r.dom k->w.heap.size<=k)->(rs.Pairwise fun r s=>∀ k,r.dom k->¬ s.dom k)->St W M T n ((d,v)::G) (rs++D) F a w')->K a w'):sA P ⟨some d,.call { callee:=.value x,args:=args,argTypes:=tys },ty,pos,af,g⟩ a w K :=
 xp rfl I hx hf hargs hc fun v w' O hr=>k v w' hr _ O (fun rs h1 h2=>(I.adds O rs h1 h2).put hn v)
theorem bJ {R:Value->World->Prop} {b:Nat} {cs:bK} {bt:TypeId} (I:St W M T n G D F a w) (hf:aS P f=true) (hargs:evs G args.toList=some vs) (hn:Nat.blt d n=true) (i:Nat) (hi:D[i]? = some (.box b cs bt)) (hc:bj P (fun k=>k=b) f vs w R)
  (k:∀ v w',R v w'->Kt (fun k=>k=b) w w'->∃ cs',w'.heap[b]? = some (.cells cs'.toArray bt (0,0))/\∀ a,St W M T n ((d,v)::G) (D.set i (.box b cs' bt)) F a w'->K a w'):sA P ⟨some d,.call { callee:=.value (.func f),args:=args,argTypes:=tys },ty,pos,af,g⟩ a w K :=
 xp (cap:=[]) rfl I rfl hf hargs (by rw [Ax]; exact hc) fun v w' O hr=>by
  obtain⟨cs',h1,h2⟩:=k v w' hr O;exact h2 _ ((I.turn hi (O.mono fun j hj=>by simp [cS.dom,hj]) (r':=.box b cs' bt) h1 (fun j hj=>.inl hj)).put hn v)
theorem tX {z b o m c:Nat} {k:IntKind} (ht:n8 P t=some e) (he:qT P e=some (ag,z)) (h0:0<=i) (h1:i<m) (w:World):(Instr.indexAt t (.slice (some ⟨b,o,none⟩) m c) (.int k i)).run P w = .ok (.pointer (some ⟨b,o+i.toNat*z,none⟩)) w:=by
 simp [Instr.indexAt,asIntOf,run_underlying (wB ht),h0,h1,qf he,px]
theorem bE {R:aO α} {xs:List α} {X Y:Operand} {k:IntKind} (I:St W M T n G D F a w) (ht:n8 P t=some e) (he:qT P e=some (ag,R.size)) (hX:ev G X=some v) (hY:ev G Y=some (.int k i)) (j:Nat) (hj:F[j]? = some (aT R v xs)) (hg:bO xs i=some x) (hn:Nat.blt d n=true)
  (K':∀ b o cs,R.rel (dT T D) w cs x->∀ a,St W M T n ((d,.pointer (some ⟨b,o,none⟩))::G) D (fb b o cs::F) a w->K a w):sA P ⟨some d,.indexAddr t X Y,ty,pos,af,g⟩ a w K:=by
 obtain⟨b,o,c,rfl,_,cs,h1,h2⟩:=aI.get (I.get j hj:aI R (dT T D) w v xs) hg;obtain⟨q1,q2,_⟩:=ja hg;have hr:(execOp a.eval ⟨some d,.indexAddr t X Y,ty,pos,af,g⟩).run P w = .ok (.value (.pointer (some ⟨b,o+i.toNat*R.size,none⟩))) w:=by simp [execOp,I.ev hX,I.ev hY,tX ht he q1 q2]
 exact BK hr (K' b _ cs h1 _ ((I.put hn _).fact (fb b _ cs) h2))
theorem nw {R:aO α} {xs:List α} (I:St W M T n G D F a w) (ht:n8 P t=some e) (he:qT P e=some (ag,R.size)) (j:Nat) (hj:F[j]? = some (aT R v xs)) (hg:bO xs i=some x) :
  ∃ b o cs,R.rel (dT T D) w cs x/\(∀ {E:Nat->Prop} {d:Option Nat} {ty:TypeId} {X Y:Operand} {pos:String} {af:Array Edge} {g:Option (Nat×Bool)} {k:IntKind},ev G X=some v->ev G Y=some (.int k i)->Ye P ⟨d,.indexAddr t X Y,ty,pos,af,g⟩ a E w (.pointer (some ⟨b,o,none⟩)))/\St W M T n G D (fb b o cs::F) a w:=by
 obtain⟨b,o,c,rfl,_,cs,h1,h2⟩:=aI.get (I.get j hj:aI R (dT T D) w v xs) hg;obtain⟨q1,q2,_⟩:=ja hg;refine⟨b,_,cs,h1,fun hX hY=>Ye.of fun w=>by simp [execOp,I.ev hX,I.ev hY,tX ht he q1 q2],I.fact (fb b _ cs) h2⟩
end
end
section
open Go.RowKit
variable {α:Type} {R:aO α} {bt d:Nat} {e:TypeId} {hi:Int} {k1 k2:IntKind} {lo:Int} {sz:Nat} {t ty:TypeId} {v:Value} {x:Operand} {xs ys:List α}
variable {pos:String} {af:Array Edge} {g:Option (Nat×Bool)}
def DM (P:Program) (t:TypeId):Option (TypeId×Nat×Nat):=match P.underlying t with
 | some (.slice e)=>match P.info? e with
  | some i=>match i.zero with
   | some z=>cond (Nat.beq z.cells.size i.size&&Nat.blt 0 i.size) (some (e,i.size,i.bytes)) none
   | none=>none
  | none=>none
 | _=>none
theorem CD {P:Program} (h:DM P t=some (e,sz,bt)):Nb P t e sz bt:=by
 unfold DM at h;split at h
 ·rename_i e' hu;split at h
  ·rename_i i hi;split at h
   ·rename_i z hz;cases hc:(Nat.beq z.cells.size i.size&&Nat.blt 0 i.size) with
    | false=>rw [hc] at h; cases h
    | true =>
     rw [hc] at h;simp only [cond_true,cp,ze] at h;obtain⟨rfl,rfl,rfl⟩:=h;simp only [qj] at hc;exact⟨hu,⟨i,z,hi,hz,rfl,rfl,xf hc.1⟩,cw hc.2⟩
   ·cases h
  ·cases h
 ·cases h
def T7 (len size:Nat):List (Nat×Nat):=(List.range len).map fun i=>(i*size,size)
def Ui (zc:bK) (k:Nat):bK:=((Array.range k).map (zc.toArray[· % zc.toArray.size]!)).toList
section
variable {P:Program} {W:World} {M T E:Nat->Prop} {n:Nat} {G G':List (Nat×Value)} {D D':List cS} {F F':List cL} {a:Act} {w w':World} {K:Act->World->Prop} {Q:Exit->Act->World->Prop}
theorem bf {len:Nat} {ps:List (Nat×Operand)} {zs zl ws:bK} {us:List (bK)} {vs:List (Nat×Value)} (I:St W M T n G D F a w) (he:DM P t=some (e,sz,bt)) (hz:gF P e=some zs) (hzl:Ui zs (len*sz)=zl) (hv:evp G ps=some vs) (hcs:Cs vs us) (hf:Es (T7 len sz) zl vs us=some ws) (hl:Nat.ble (len*sz) 1000=true) (hl0:Nat.blt 0 len=true) (hn:Nat.blt d n=true)
  (k:∀ b a w',Kt No w w'->St W M T n ((d,.slice (some ⟨b,0,none⟩) len len)::G) (.box b ws e::D) F a w'->K a w'):sA P ⟨some d,.buildSlice t len ps.toArray,ty,pos,af,g⟩ a w K:=by
 obtain⟨ht,⟨i,z,hi,hz0,hsz,hby,hzc⟩,hpos⟩:=CD he;have hzz:z.cells.toList=zs:=by
  unfold gF at hz;rw [hi] at hz;simp only [hz0,cp] at hz;exact hz
 have h1:=cw hl;have h2:0<len:=cw hl0;have hfill:=Fu (place:=fun i=>some (i*sz,sz)) (pl:=T7 len sz) (fun i q hq=>by
  unfold T7 at hq;rw [sf] at hq;cases hr:(List.range len)[i]? with
  | none=>rw [hr] at hq; cases hq
  | some j =>
   rw [hr] at hq;simp only [mJ,cp] at hq;have:=cu.1 hr;obtain⟨_,hj⟩:=this;simp only [List.getElem_range] at hj;subst hj; rw [<- hq]) vs us zl ws hcs hf
 subst hsz;have hcells:((Array.range (len*i.size)).map (z.cells[· % z.cells.size]!))=zl.toArray:=by
  rw [<- hzl]; unfold Ui; rw [<- hzz]
 have hev:(ps.toArray.map (fun p=>(p.1,a.eval p.2))).toList=vs:=by rw [<- I.evp hv]; simp
 have hr:(Instr.buildSlice t len (ps.toArray.map (fun p=>(p.1,a.eval p.2)))).run P w = .ok (.slice (some ⟨w.heap.size,0,none⟩) len len) (w.alloc (.cells ws.toArray e)) :=
  run_buildSlice w t e len _ ws.toArray i z ht hi hz0 (by omega) (by have:=Nat.mul_pos h2 hpos; omega) (by rw [hcells,hev]; exact hfill)
 have hr2:(execOp a.eval ⟨some d,.buildSlice t len ps.toArray,ty,pos,af,g⟩).run P w = .ok (.value (.slice (some ⟨w.heap.size,0,none⟩) len len)) (w.alloc (.cells ws.toArray e)):=by
  show (do pure (Next.value (<- Instr.buildSlice t len (ps.toArray.map fun p=>(p.1,a.eval p.2)))):Sem Next).run P w=_;rw [Sem.run_bind,hr]; rfl
 exact BK hr2 (k w.heap.size _ _ (Kt.alloc _ _) ((I.alloc ws e).put hn _))
theorem St.lit {b m:Nat} {us:bK} (I:St W M T n G D F a w) (i:Nat) (hi:D[i]? = some (.box b us e)) (C:0<R.size) (hr:aY R (dT T D) w us xs) (hm:m=xs.length) (hlim:Nat.ble m 1000=true):St W M T n G (D.set i (.own (.slice (some ⟨b,0,none⟩) m m) e R.size us)) (ap R us xs::F) a w:=by
 have hok:=I.own _ (aD hi);have h1:=cw hlim;subst hm;have h2:=I.fact (ap R us xs) hr;refine h2.turn hi (aj _ _) ⟨.inr ⟨b,0,xs.length,xs.length,us.toArray,rfl,hr.1,bY _,.of hok,cm _,by unfold maxLen; omega,by rw [pa,<- hr.1]; simp,fun j u hu=>by rw [pa]; simpa using hu⟩,C⟩ (fun j hj=>.inl hj)
theorem St.zn (R:aO α) (e:TypeId) (C:0<R.size) (I:St W M T n G D F a w):St W M T n G (.own (.slice none 0 0) e R.size []::D) (ap R [] []::F) a w :=
 (I.add (aj _ _) (.own (.slice none 0 0) e R.size []) ⟨pv.nil_ _ _ _ _,C⟩ (fun k O=>by simp [cS.dom,Value.ownBlock] at O)).fact _ (aY.nil_ _ _ _)
theorem Nh {o:Oper} {s:Operand} {cl news:bK} {A:Option Addr} {m c:Nat} (ho:o.op = .call { callee:=.builtin .append,args:=#[s,x],argTypes:=#[t,t] }) (I:St W M T n G D F a w) (he:DM P t=some (e,sz,bt)) (hs:ev G s=some v) (hx:ev G x=some (.slice A m c)) (hown:pv w 0 e sz v cl) (hl:news.length=m*sz) (hat:At w A news) (h1:∀ u∈news,u.oneCell'=true) (hz:(cl.length+news.length)<=4294967296*sz) (hb:Nat.ble (sz*bt) 32768=true) (hbs:Nat.ble sz 32768=true)
  (k:∀ v' w',Kt (fun j=>v.ownBlock=some j) w w'->pv w' 0 e sz v' (cl++news)->(∀ j,v'.ownBlock=some j->v.ownBlock=some j∨w.heap.size<=j)->K (a.put o.dst v') w'):sA P o a w K:=fun K' Q hK=>by
 have q1:=cw hb;have q2:=cw hbs;have q3:(cl.length+news.length)*bt<=4294967296*(sz*bt):=by rw [<- Nat.mul_assoc]; exact nY _ hz
 exact yf w s x t ho e sz bt (CD he) 0 v cl (I.ev hs) hown A m c news (I.ev hx) hl hat h1 (by unfold maxLen; omega) (by omega) (bY _) fun v' w' h2 h3 h4=>hK _ _ (k v' w' (Kt.grown h3) h2 (fun j hj=>by
  rcases h4 with h4 | h4
  ·exact .inl (h4▸hj)
  ·rw [h4] at hj; injection hj with hj; exact .inr (by omega)))
theorem bR {s:Operand} {u:Value} {cl:bK} (I:St W M T n G D F a w) (he:DM P t=some (e,R.size,bt)) (hb:Nat.ble (R.size*bt) 32768=true) (hbs:Nat.ble R.size 32768=true) (hs:ev G s=some v) (hx:ev G x=some u) (i:Nat) (hi:D[i]? = some (.own v e R.size cl)) (p:Nat) (hp:F[p]? = some (ap R cl xs)) (q:Nat) (hq:F[q]? = some (aT R u ys)) (hroom:ce (xs.length+ys.length)=true) (hn:Nat.blt d n=true)
  (k:∀ v' cl' a w',Kt (fun j=>v.ownBlock=some j) w w'->St W M T n ((d,v')::G) (D.set i (.own v' e R.size cl')) (ap R cl' (xs++ys)::F) a w'->K a w'):sA P ⟨some d,.call { callee:=.builtin .append,args:=#[s,x],argTypes:=#[t,t] },ty,pos,af,g⟩ a w K:=by
 obtain⟨hown,hsz⟩:=I.own _ (aD hi);have hrow:aY R (dT T D) w cl xs:=I.get p hp;have hsl:aI R (dT T D) w u ys:=I.get q hq;obtain⟨A,c,rfl,_⟩:=id hsl;obtain⟨_,cs,hat,hr⟩:=hsl.rows hsz;have h1:=Dh hroom;refine Nh rfl I he hs hx hown hr.1 hat (hr.cell hsz) (by rw [hrow.1,hr.1,<- jL]; exact nY _ h1) hb hbs fun v' w' h2 h3 h4=>?_;have h5:=I.fact (ap R (cl++cs) (xs++ys)) (hrow.append hr);exact k v' (cl++cs) _ w' h2 ((h5.turn hi (r':=.own v' e R.size (cl++cs)) h2 ⟨h3,hsz⟩ h4).put hn v')
theorem EG (z:Array Value):∀ m:Nat,(madeCells z (m*z.size)).toList=(List.replicate m z.toList).flatten
 | 0=>by simp [madeCells]
 | m+1=>by
  have ih:=EG z m;have h1:∀ N,(madeCells z N).toList=(List.range N).map (fun k=>z[k % z.size]!):=fun N=>by simp [madeCells]
  rw [h1] at ih ⊢;rw [show (m+1)*z.size=z.size+m*z.size by rw [jL]; omega,List.range_add,Az,AA,List.replicate_succ,List.flatten_cons,<- ih];congr 1
  ·apply List.ext_getElem?;intro k;rw [sf];by_cases O:k<z.size
   ·rw [List.getElem?_range O,mJ,y9 O,getElem!_pos z k O];simp [O]
   ·rw [E8 (by simpa using O),E8 (by simpa using O)]; rfl
  ·apply HE;intro k _;simp only [Function.comp,Nat.add_mod_left]
theorem aY.rep {T:Nat->Prop} {w:World} {cs:bK} {x:α} (h:R.rel T w cs x):∀ m:Nat,aY R T w (List.replicate m cs).flatten (List.replicate m x)
 | 0=>aY.nil_ _ _ _
 | m+1=>by rw [List.replicate_succ,List.replicate_succ,List.flatten_cons]; exact (aJ h).append (aY.rep h m)
theorem P4 {z0:α} {y:Operand} {zs:bK} {kx ky:IntKind} {len:Int} (I:St W M T n G D F a w) (he:DM P t=some (e,R.size,bt)) (hz:gF P e=some zs) (hb:Nat.ble (R.size*bt) 32768=true) (hx:ev G x=some (.int kx len)) (hy:ev G y=some (.int ky len)) (h0:decide (0<=len)=true) (hroom:ce len.toNat=true) (hr:R.rel (dT T D) w zs z0) (hn:Nat.blt d n=true)
  (k:∀ v' cl' a w',Kt No w w'->St W M T n ((d,v')::G) (.own v' e R.size cl'::D) (ap R cl' (List.replicate len.toNat z0)::F) a w'->K a w'):sA P ⟨some d,.makeSlice t x y,ty,pos,af,g⟩ a w K:=by
 obtain⟨ht,⟨i,z,hi,hz0,hsz,hby,hzc⟩,hpos⟩:=CD he;have h0:=of_decide_eq_true h0;have hzz:z.cells.toList=zs:=by
  unfold gF at hz;rw [hi] at hz;simp only [hz0,cp] at hz;exact hz
 have h1:=Dh hroom;have q1:=cw hb;subst hby;have hbt:i.bytes<=32768:=cN (Nat.le_mul_of_pos_left _ hpos) q1;obtain⟨m,rfl⟩:∃ m:Nat,len=m:=⟨len.toNat,by omega⟩;rw [sC] at *;have hmul:i.bytes*m<=32768*4294967296:=Nat.mul_le_mul hbt h1;have hbi:(i.bytes:Int)*(m:Int)<=281474976710656:=by
  have:((i.bytes*m:Nat):Int)<=281474976710656:=by omega
  rwa [Int.natCast_mul] at this
 have hrun:=run_make (P:=P) w t e i z ht hi hz0 kx ky (m:Int) (m:Int) (by omega) (by omega) hbi (by omega);rw [sC,hsz] at hrun;have hfl:(madeCells z.cells (m*R.size)).toList=(List.replicate m zs).flatten:=by rw [<- hzc,EG,hzz]
 have hrow:=aY.rep hr m;have hown:pv (w.alloc (.cells (madeCells z.cells (m*R.size)) e)) 0 e R.size (.slice (some ⟨w.heap.size,0,none⟩) m m) (List.replicate m zs).flatten:=by
  rw [<- hfl];exact pv.lit w 0 e R.size _ m (bY _) (size_madeCells _ _) (by unfold maxLen; omega)
 have hr2:(execOp a.eval ⟨some d,.makeSlice t x y,ty,pos,af,g⟩).run P w = .ok (.value (.slice (some ⟨w.heap.size,0,none⟩) m m)) (w.alloc (.cells (madeCells z.cells (m*R.size)) e)):=by
  simp [execOp,I.ev hx,I.ev hy,hrun]
 have hS2:=I.fact (ap R (List.replicate m zs).flatten (List.replicate m z0)) hrow;exact BK hr2 (k _ _ _ _ (Kt.alloc _ _) ((hS2.add (Kt.alloc _ _) (.own (.slice (some ⟨w.heap.size,0,none⟩) m m) e R.size (List.replicate m zs).flatten) ⟨hown,hpos⟩ (fun j hj=>by simp only [cS.dom,Value.ownBlock,cp] at hj; omega)).put hn _))
theorem vL {isS:Bool} {len cap:Nat} (h0:0<=lo) (h1:lo<=hi) (h2:hi<=len) (h3:len<=cap) (w:World) (olo ohi:Option Value) (hlo:olo=some (.int k1 lo)∨(olo=none/\lo=0)) (hhi:ohi=some (.int k2 hi)∨(ohi=none/\hi=len)):(Instr.sliceBounds isS len cap olo ohi none).run P w = .ok (lo.toNat,hi.toNat,cap) w:=by
 have a1:hi<=cap:=by omega
 have a2:0<=hi:=by omega
 have a3:lo<=(hi.toNat:Int):=by omega
 rcases hlo with rfl | ⟨rfl,rfl⟩ <;> rcases hhi with rfl | ⟨rfl,rfl⟩
 ·simp [Instr.sliceBounds,Instr.sliceBound,asIntOf,h0,a1,a2,a3];intro h;omega
 ·simp [Instr.sliceBounds,Instr.sliceBound,asIntOf,h0,h1]
 ·simp [Instr.sliceBounds,Instr.sliceBound,asIntOf,a1,a2]
 ·simp [Instr.sliceBounds]
theorem xB (h:uV xs lo hi=some ys):0<=lo/\lo<=hi/\hi<=xs.length/\ys=(xs.take hi.toNat).drop lo.toNat:=by
 unfold uV at h;split at h
 ·rename_i hc; injection h with h; exact⟨hc.1,hc.2.1,hc.2.2,h.symm⟩
 ·cases h
theorem aI.cut {T:Nat->Prop} {A:Option Addr} {c l h:Nat} (hs:aI R T w (.slice A xs.length c) xs) (h1:l<=h) (h2:h<=xs.length) (B:Option Addr) (hB:l<h->∀ b o,A=some ⟨b,o,none⟩->B=some ⟨b,o+l*R.size,none⟩):aI R T w (.slice B (h-l) (c-l)) ((xs.take h).drop l):=by
 obtain⟨A',c',e,q1,q2,q3⟩:=hs;injection e with e1 e2 e3;subst e1 e3;have hlen:((xs.take h).drop l).length=h-l:=by simp; omega
 refine⟨B,c-l,by rw [hlen],by omega,by omega,?_⟩;by_cases hlt:l<h
 ·rcases q3 with q3 | ⟨b,off,rfl,hc⟩
  ·subst q3; simp at h2; omega
  ·refine .inr ⟨b,off+l*R.size,hB hlt b off rfl,fun k x hx=>?_⟩;rw [xi,ub] at hx;split at hx
   ·obtain⟨cs,g1,g2⟩:=hc _ x hx;exact⟨cs,g1,by rwa [show off+l*R.size+k*R.size=off+(l+k)*R.size by rw [jL]; omega]⟩
   ·cases hx
 ·left;apply DH; omega
theorem Sm {X:Operand} {olo ohi:Option Operand} {ag:Bool} (I:St W M T n G D F a w) (ht:n8 P t=some e) (he:qT P e=some (ag,R.size)) (hX:ev G X=some v) (hlo:(∃ x,olo=some x/\ev G x=some (.int k1 lo))∨(olo=none/\lo=0)) (hhi:(∃ x,ohi=some x/\ev G x=some (.int k2 hi))∨(ohi=none/\hi=xs.length)) (j:Nat) (hj:F[j]? = some (aT R v xs)) (hg:uV xs lo hi=some ys) (hn:Nat.blt d n=true)
  (K':∀ v' a,St W M T n ((d,v')::G) D (aT R v' ys::F) a w->K a w):sA P ⟨some d,.slice t X olo ohi none,ty,pos,af,g⟩ a w K:=by
 obtain⟨q1,q2,q3,rfl⟩:=xB hg;have hsl:aI R (dT T D) w v xs:=I.get j hj;obtain⟨A,c,rfl,p1,p2⟩:=hsl.len;have hb:=vL (P:=P) (isS:=true) (k1:=k1) (k2:=k2) q1 q2 q3 p1 w (olo.map a.eval) (ohi.map a.eval)
  (by
    rcases hlo with⟨x,rfl,hx⟩|⟨rfl,rfl⟩
    ·exact .inl (by rw [mJ,I.ev hx])
    ·exact .inr ⟨rfl,rfl⟩)
  (by
    rcases hhi with⟨x,rfl,hx⟩|⟨rfl,rfl⟩
    ·exact .inl (by rw [mJ,I.ev hx])
    ·exact .inr ⟨rfl,rfl⟩)
 have hr:(execOp a.eval ⟨some d,.slice t X olo ohi none,ty,pos,af,g⟩).run P w = .ok (.value (.slice (if c=lo.toNat then A else A.map (·.add (lo.toNat*R.size))) (hi.toNat-lo.toNat) (c-lo.toNat))) w:=by
  have hx:=I.ev hX;simp [execOp,Instr.sliceAt,Instr.slice,run_underlying (wB ht),hx,hb,qf he]
 refine BK hr (K' _ _ ((I.put hn _).fact (aT R _ _) ?_));refine hsl.cut (by omega) (by omega) _ (fun hlt b o U=>?_);rw [if_neg (by omega),U];simp [px]
theorem KB {s p:ByteArray} (h:ln s lo hi=some p):0<=lo/\lo<=hi/\hi<=s.size/\p=s.extract lo.toNat hi.toNat:=by
 unfold ln at h;split at h
 ·rename_i hc; injection h with h; exact⟨hc.1,hc.2.1,hc.2.2,h.symm⟩
 ·cases h
theorem jC {d:Option Nat} {X:Operand} {olo ohi:Option Operand} {s p:ByteArray} (I:St W M T n G D F a w) (ht:P.underlying t=some .string) (hX:ev G X=some (.string s)) (hlo:(∃ x,olo=some x/\ev G x=some (.int k1 lo))∨(olo=none/\lo=0)) (hhi:(∃ x,ohi=some x/\ev G x=some (.int k2 hi))∨(ohi=none/\hi=s.size)) (hg:ln s lo hi=some p):Ye P ⟨d,.slice t X olo ohi none,ty,pos,af,g⟩ a E w (.string p) :=
 Ye.of fun w=>by
  obtain⟨q1,q2,q3,rfl⟩:=KB hg;have hb:=vL (P:=P) (isS:=false) (k1:=k1) (k2:=k2) q1 q2 q3 (cm _) w (olo.map a.eval) (ohi.map a.eval)
   (by
     rcases hlo with⟨x,rfl,hx⟩|⟨rfl,rfl⟩
     ·exact .inl (by rw [mJ,I.ev hx])
     ·exact .inr ⟨rfl,rfl⟩)
   (by
     rcases hhi with⟨x,rfl,hx⟩|⟨rfl,rfl⟩
     ·exact .inl (by rw [mJ,I.ev hx])
     ·exact .inr ⟨rfl,rfl⟩)
  simp [execOp,Instr.sliceAt,Instr.slice,run_underlying ht,I.ev hX,hb]
end
end
section
open Go.RowKit
variable {α:Type} {R:aO α} {cl:bK} {d:Option Nat} {e:TypeId} {k:IntKind} {p q:Int} {t ty:TypeId} {v:Value} {x:Operand} {xs:List α} {y:Operand}
variable {pos:String} {af:Array Edge} {g:Option (Nat×Bool)}
def Nc (D:List cS):List cS->Prop
 | []=>True
 | r::s=>(r.bare=true∨r∈D)/\Nc D s
theorem Nc.sub {T:Nat->Prop} {D:List cS}:∀ {rs:List cS},Nc D rs->∀ k,dT T rs k->dT T D k
 | [],_,k,O=>by
  rcases O with O | ⟨r,hr,_⟩
  ·exact .inl O
  ·cases hr
 | r::s,h,k,O=>by
  rcases I3.1 O with O | O
  ·exact Nc.sub h.2 k O
  ·rcases h.1 with h1 | h1
   ·exact absurd O (cS.bare_no h1 k)
   ·exact .inr ⟨r,h1,O⟩
def kJ (R:aO α) (T:Nat->Prop) (W w:World) (rs:List cS) (e:TypeId) (v:Value) (cl:bK) (xs:List α):Prop :=
 pv w 0 e R.size v cl/\(∀ k,v.ownBlock=some k->W.heap.size<=k)/\aY R (dT T rs) w cl xs
theorem aI.dn {T:Nat->Prop} {w:World} (h:aI R T w v xs):aI R (dT T []) w v xs :=
 h.sub fun k O=>.inl (by rcases O with O | ⟨r,hr,_⟩; exact O; cases hr)
theorem aI.up {T:Nat->Prop} {D rs:List cS} {w:World} (hi:Nc D rs) (h:aI R (dT T D) w v xs):aI R (dT T rs) w v xs :=
 h.sub fun k O=>.inl (hi.sub k O)
theorem kJ.sl {T:Nat->Prop} {W w:World} {rs:List cS} (hs:0<R.size) (h:kJ R T W w rs e v cl xs) (hT:∀ k,T k->k<W.heap.size):aI R T w v xs :=
 pv.rd hs h.1 (h.2.2.keep (aj _ _) fun k O=>.inl (.inl O)) fun k O ht=>by have:=h.2.1 k O; have:=hT k ht; omega
theorem ik {w:World} {B:Nat} {sz:Nat} (h:pv w B e sz v cl):v.oneCell'=true:=by
 rcases h with⟨rfl,_⟩|⟨g,off,n,cap,cs,rfl,_⟩ <;> rfl
theorem ft (R:aO α) (T:Nat->Prop) (W w:World) (rs:List cS) (e:TypeId):kJ R T W w rs e (.slice none 0 0) [] [] :=
 ⟨pv.nil_ _ _ _ _,fun k O=>by simp [Value.ownBlock] at O,aY.nil_ _ _ _⟩
def sj (op:BinOp) (k:IntKind) (x y:Int):Int :=
 let a:=BitVec.ofInt k.bits x
 let b:=BitVec.ofInt k.bits y
 match op with
 | .and=>k.wrap (a &&& b).toNat
 | .or=>k.wrap (a ||| b).toNat
 | .xor=>k.wrap (a ^^^ b).toNat
 | _=>k.wrap (a &&& ~~~b).toNat
def OE:BinOp->Bool
 | .and | .or | .xor | .andNot=>true
 | _=>false
section
variable {P:Program} {W:World} {M T E:Nat->Prop} {n:Nat} {G G':List (Nat×Value)} {D D' rs:List cS} {F F':List cL} {a:Act} {w w':World} {K:Act->World->Prop} {Q:Exit->Act->World->Prop}
theorem St.zo (h:St W No T n G D F a w) (hi:Nc D rs) (i:Nat) (hd:D[i]? = some (.own v e R.size cl)) (j:Nat) (hj:F[j]? = some (ap R cl xs)):kJ R T W w rs e v cl xs:=by
 have hm:=aD hd;exact⟨(h.own _ hm).1,fun k O=>(h.free _ hm k O).2.resolve_left fun h=>h,(h.get j hj:aY R (dT T D) w cl xs).keep (aj _ _) fun k O=>.inl (hi.sub k O)⟩
theorem St.zp {v2:Value} {e2:TypeId} {sz sz2:Nat} {DL:bK} (h:St W M T n G D F a w) (i:Nat) (hi:D[i]? = some (.own v e sz cl)) (j:Nat) (hj:D[j]? = some (.own v2 e2 sz2 DL)) (hij:i≠j):∀ k,v.ownBlock=some k->v2.ownBlock≠some k:=by
 intro k O hk2;obtain⟨l1,e1⟩:=cu.1 hi;obtain⟨l2,e2⟩:=cu.1 hj;rcases y7 hij with hlt | hlt
 ·exact gC.1 h.apart i j l1 l2 hlt k (by rw [e1]; exact O) (by rw [e2]; exact hk2)
 ·exact gC.1 h.apart j i l2 l1 hlt k (by rw [e2]; exact hk2) (by rw [e1]; exact O)
theorem pq.mem {D rs:List cS} {is:List Nat} (h:pq D is rs):∀ r∈rs,r∈D:=fun r hr=>by
 obtain⟨i,_,hi⟩:=h.get r hr; exact aD hi
theorem QE {s:TypeId} {k' ks:IntKind} (I:St W M T n G D F a w) (hx:ev G x=some (.int k p)) (hs:P.underlying s=some (.int ks)) (ht:P.underlying t=some (.int k')):Ye P ⟨d,.convert s t x,ty,pos,af,g⟩ a E w (.int k' (k'.wrap p)) :=
 Ye.of fun w=>by
  simp [execOp,I.ev hx,convert,run_underlying hs,run_underlying ht,Conv.intToInt]
theorem R6 {ys:List α} {lo hi:Int} {ag:Bool} (I:St W M T n G D F a w) (ht:n8 P t=some e) (he:qT P e=some (ag,R.size)) (j:Nat) (hj:F[j]? = some (aT R v xs)) (hg:uV xs lo hi=some ys) :
  ∃ v',(∀ {E:Nat->Prop} {d:Option Nat} {ty:TypeId} {X:Operand} {olo ohi:Option Operand} {pos:String} {af:Array Edge} {g:Option (Nat×Bool)} {k1 k2:IntKind},ev G X=some v->((∃ x,olo=some x/\ev G x=some (.int k1 lo))∨(olo=none/\lo=0))->((∃ x,ohi=some x/\ev G x=some (.int k2 hi))∨(ohi=none/\hi=xs.length))->Ye P ⟨d,.slice t X olo ohi none,ty,pos,af,g⟩ a E w v')/\St W M T n G D (aT R v' ys::F) a w:=by
 obtain⟨q1,q2,q3,rfl⟩:=xB hg;have hsl:aI R (dT T D) w v xs:=I.get j hj;obtain⟨A,c,rfl,p1,p2⟩:=hsl.len;refine⟨.slice (if c=lo.toNat then A else A.map (·.add (lo.toNat*R.size))) (hi.toNat-lo.toNat) (c-lo.toNat),?_,I.fact _ (hsl.cut (by omega) (by omega) _ (fun hlt b o U=>?_))⟩
 ·intro E d ty X olo ohi pos af g k1 k2 hX hlo hhi;refine Ye.of fun w=>?_;have hb:=vL (P:=P) (isS:=true) (k1:=k1) (k2:=k2) q1 q2 q3 p1 w (olo.map a.eval) (ohi.map a.eval)
   (by
     rcases hlo with⟨x,rfl,hx⟩|⟨rfl,rfl⟩
     ·exact .inl (by rw [mJ,I.ev hx])
     ·exact .inr ⟨rfl,rfl⟩)
   (by
     rcases hhi with⟨x,rfl,hx⟩|⟨rfl,rfl⟩
     ·exact .inl (by rw [mJ,I.ev hx])
     ·exact .inr ⟨rfl,rfl⟩)
  simp [execOp,Instr.sliceAt,Instr.slice,run_underlying (wB ht),I.ev hX,hb,qf he]
 ·rw [if_neg (by omega),U];simp [px]
theorem SY {tys:Array TypeId} (I:St W M T n G D F a w) (hx:ev G x=some (.int k p)) (hy:ev G y=some (.int k q)):Ye P ⟨d,.call { callee:=.builtin .max,args:=#[x,y],argTypes:=tys },ty,pos,af,g⟩ a E w (.int k (max p q)) :=
 Ye.of fun w=>by
  have h:(if q>p then q else p)=max p q:=by rw [Int.max_def]; split <;> split <;> omega
  simp only [execOp,resolve,invoke,builtin,Sem.run_bind,Sem.run_pure,Result.andThen_ok,JS,yk,HF,I.ev hx,I.ev hy,Builtin.max_,List.foldlM_cons,List.foldlM_nil,Builtin.max2,h]
theorem JI {tys:Array TypeId} (I:St W M T n G D F a w) (hx:ev G x=some (.int k p)) (hy:ev G y=some (.int k q)):Ye P ⟨d,.call { callee:=.builtin .min,args:=#[x,y],argTypes:=tys },ty,pos,af,g⟩ a E w (.int k (min p q)) :=
 Ye.of fun w=>by
  have h:(if q<p then q else p)=min p q:=by rw [Int.min_def]; split <;> split <;> omega
  simp only [execOp,resolve,invoke,builtin,Sem.run_bind,Sem.run_pure,Result.andThen_ok,JS,yk,HF,I.ev hx,I.ev hy,Builtin.min_,List.foldlM_cons,List.foldlM_nil,Builtin.min2,h]
theorem vQ {op:BinOp} {t':TypeId} (I:St W M T n G D F a w)
  (hx:ev G x=some (.int k p)) (hy:ev G y=some (.int k q)) (hv:OE op=true):Ye P ⟨d,.binOp op t x y t',ty,pos,af,g⟩ a E w (.int k (sj op k p q)) :=
 Ye.of fun w=>by
  have h1:=I.ev hx;have h2:=I.ev hy;cases op <;> simp only [OE,reduceCtorEq] at hv <;> simp [execOp,h1,h2,eqGuard,binOp,Op.intBits,sj]
theorem IE {op:BinOp} {t':TypeId} {p q:Bool} (I:St W M T n G D F a w)
  (hx:ev G x=some (.bool p)) (hy:ev G y=some (.bool q)) (ht:P.underlying t=some .bool) {v:Bool} (hv:(op = .eql/\v=(p==q))∨(op = .neq/\v=(p != q))):Ye P ⟨d,.binOp op t x y t',ty,pos,af,g⟩ a E w (.bool v) :=
 Ye.of fun w=>by
  have h1:=I.ev hx;have h2:=I.ev hy;have h3:=run_equal_bool (P:=P) w t p q ht;rcases hv with⟨rfl,rfl⟩|⟨rfl,rfl⟩ <;> simp [execOp,h1,h2,eqGuard,binOp,h3];cases p <;> cases q <;> rfl
end
end
section
open Go.RowKit
variable {α:Type} {R:aO α} {X:Operand} {ag:Bool} {b:Nat} {cl cs:bK} {d:Option Nat} {e e':TypeId} {i:Int} {o p:Nat} {r r':cS} {sz:Nat} {t ty:TypeId} {v:Value} {x:α} {xs:List α} {z:Nat}
variable {pos:String} {af:Array Edge} {g:Option (Nat×Bool)}
theorem UD {T:Nat->Prop} (w:World):Nw T (dT T []) w:=fun k O=>.inl (by rcases O with O | ⟨r,hr,_⟩; exact O; cases hr)
def Ox (er:Value) (b:Bool):Prop:=(b=false/\er = .nilIface)∨(b=true/\∃ t v,er = .iface t v)
section
variable {P:Program} {W:World} {M T E:Nat->Prop} {n:Nat} {G G':List (Nat×Value)} {D D' rs:List cS} {F F':List cL} {a:Act} {w w':World} {K:Act->World->Prop} {Q:Exit->Act->World->Prop}
theorem Om {t':TypeId} {x:Operand} {er:Value} {b:Bool} (I:St W M T n G D F a w)
  (hx:ev G x=some er) (he:Ox er b) (ht:P.underlying t=some (.interface (P.methodsAt t))):Ye P ⟨d,.binOp .neq t x (.const .nilIface) t',ty,pos,af,g⟩ a E w (.bool b) :=
 Ye.of fun w=>by
  have h1:=I.ev hx;have hc:a.eval (.const .nilIface) = .nilIface:=rfl;rcases he with⟨rfl,rfl⟩|⟨rfl,tt,vv,rfl⟩
  ·have h3:=run_equal_nil_nil (P:=P) w t ht;simp only [execOp,h1,hc,eqGuard,binOp];simp [h3]
  ·have h3:=run_equal_held_nil (P:=P) w t tt vv ht;simp only [execOp,h1,hc,eqGuard,binOp];simp [h3]
def Nf (v:Value) (b o sz:Nat) (i:Int) (p:Nat):Prop:=∃ off m c,v = .slice (some ⟨b,off,none⟩) m c/\o=off+i.toNat*sz/\p=i.toNat*sz
theorem zQ {e:Nat} {sz2:Nat} (h:Nf v b o sz i p):(cS.own v e sz2 cl).dom b:=by obtain⟨off,m,c,rfl,_,_⟩:=h; rfl
theorem Jk (I:St W M T n G D F a w) (q:Nat) (hq:D[q]? = some (.own v e R.size cl)) (j:Nat) (hj:F[j]? = some (ap R cl xs)) (hg:bO xs i=some x) :
  ∃ b off c,v = .slice (some ⟨b,off,none⟩) xs.length c/\∃ cs,R.rel (dT T D) w cs x/\(∀ k u,cs[k]? = some u->cl[i.toNat*R.size+k]? = some u):=by
 obtain⟨q1,q2,q3⟩:=ja hg;obtain⟨hown,hsz⟩:=I.own _ (aD hq);have hrow:aY R (dT T D) w cl xs:=I.get j hj;obtain⟨cs,h1,h2⟩:=hrow.2 _ _ q3;rcases hown with⟨rfl,rfl⟩|⟨gb,off,m,cap,row,rfl,p1,p2,p3,p4,p5,p6,p7⟩
 ·have h0:xs.length*R.size=0:=hrow.1.symm;rcases Nat.mul_eq_zero.1 h0 with h | h <;> omega
 ·have hm:m=xs.length:=za hsz (p1.symm.trans hrow.1);subst hm;exact⟨gb,off,cap,rfl,cs,h1,h2⟩
theorem fo {d:Nat} {Y:Operand} {k:IntKind} (I:St W M T n G D F a w) (ht:n8 P t=some e) (he:qT P e=some (ag,R.size)) (hX:ev G X=some v) (hY:ev G Y=some (.int k i)) (q:Nat) (hq:D[q]? = some (.own v e' R.size cl)) (j:Nat) (hj:F[j]? = some (ap R cl xs)) (hg:bO xs i=some x) (hn:Nat.blt d n=true)
  (K':∀ b o p cs,R.rel (dT T D) w cs x->Nf v b o R.size i p->(∀ k u,cs[k]? = some u->cl[p+k]? = some u)->∀ a,St W M T n ((d,.pointer (some ⟨b,o,none⟩))::G) D F a w->K a w):sA P ⟨some d,.indexAddr t X Y,ty,pos,af,g⟩ a w K:=by
 obtain⟨b,off,c,rfl,cs,h1,h2⟩:=Jk I q hq j hj hg;obtain⟨q1,q2,_⟩:=ja hg;have hr:(execOp a.eval ⟨some d,.indexAddr t X Y,ty,pos,af,g⟩).run P w = .ok (.value (.pointer (some ⟨b,off+i.toNat*R.size,none⟩))) w:=by simp [execOp,I.ev hX,I.ev hY,tX ht he q1 q2]
 exact BK hr (K' b _ _ cs h1 ⟨off,_,_,rfl,rfl,rfl⟩ h2 _ (I.put hn _))
theorem n5 (I:St W M T n G D F a w) (ht:n8 P t=some e) (he:qT P e=some (ag,R.size)) (q:Nat) (hq:D[q]? = some (.own v e' R.size cl)) (j:Nat) (hj:F[j]? = some (ap R cl xs)) (hg:bO xs i=some x) :
  ∃ b o p cs,R.rel (dT T D) w cs x/\Nf v b o R.size i p/\(∀ k u,cs[k]? = some u->cl[p+k]? = some u)/\(∀ {E:Nat->Prop} {d:Option Nat} {ty:TypeId} {X Y:Operand} {pos:String} {af:Array Edge} {g:Option (Nat×Bool)} {k:IntKind},ev G X=some v->ev G Y=some (.int k i)->Ye P ⟨d,.indexAddr t X Y,ty,pos,af,g⟩ a E w (.pointer (some ⟨b,o,none⟩))):=by
 obtain⟨b,off,c,rfl,cs,h1,h2⟩:=Jk I q hq j hj hg;obtain⟨q1,q2,_⟩:=ja hg;exact⟨b,_,_,cs,h1,⟨off,_,_,rfl,rfl,rfl⟩,h2,fun hX hY=>Ye.of fun w=>by simp [execOp,I.ev hX,I.ev hY,tX ht he q1 q2]⟩
theorem cK {x:Operand} {k:Nat} {us:bK} (I:St W M T n G D F a w) (ht:qT P t=some (ag,z)) (q:Nat) (hq:D[q]? = some (.own v e sz cl)) (ho:Nf v b o sz i p) (hc:∀ k u,cs[k]? = some u->cl[p+k]? = some u) (hx:ev G x=some (.pointer (some ⟨b,o+k,none⟩))) (hE:¬ E b)
  (hu:(cs.drop k).take z=us) (hl:us.length=z) (hz:ag=false->z=1):Ye P ⟨d,.load t x,ty,pos,af,g⟩ a E w (bL ag us):=fun w' O=>by
 obtain⟨hown,hsz⟩:=I.own _ (aD hq);obtain⟨off,m,c,rfl,rfl,rfl⟩:=ho;rcases hown with⟨h,_⟩|⟨gb,off',m',cap,row,h,p1,p2,p3,p4,p5,p6,p7⟩
 ·cases h
 ·injection h with h1 h2 h3;injection h1 with h1;injection h1 with h1 h4;subst h1 h4;have hr':=p3.eqb (O.block b p3.lt hE);have:=yW (P:=P) (b:=b) (o:=off+i.toNat*sz+k) ht hl hz w' (fun j u hj=>by
   rw [hr'.cell];rw [<- hu,ub] at hj;split at hj
   ·rw [xi] at hj;have:=p7 _ u (hc _ u hj);rwa [show off+(i.toNat*sz+(k+j))=off+i.toNat*sz+k+j by omega] at this
   ·cases hj)
  simp [execOp,I.ev hx,this]
theorem BQ (ht:qT P t=some (ag,z)) {row:Array Value} (hr:Eh w b row e) (hz:v.cells.toList.length=z) (hl:o+z<=row.size) (h1:∀ u∈v.cells.toList,u.oneCell'=true) :
  ∃ row':Array Value,(Instr.storeAt t (.pointer (some ⟨b,o,none⟩)) v).run P w = .ok () (w.setCells b o v.cells.toList)/\Eh (w.setCells b o v.cells.toList) b row' e/\row'.size=row.size/\∀ y,row'[y]? = if o<=y/\y<o+z then v.cells.toList[y-o]? else row[y]?:=by
 have h2:=run_storeCells_cells (P:=P) b o v.cells.toList 0 w (fun j hj=>by rw [qi,hr.cell,BT (by omega)]; rfl) (fun j hj=>by rw [qi]; exact hr.free (by omega)) h1;simp only [qi] at h2;have h3:v.cells.size=z:=by rw [<- hz]; simp
 obtain⟨fz,hg0,hfz⟩:=id hr;obtain⟨row',c1,c2,c3,c4⟩:=nq b e fz v.cells.toList o w row hg0;refine⟨row',by simp [Instr.storeAt,Instr.sureAddr,storeVar,qf ht,h3,h2],⟨fz,c1,by rw [c2]; exact hfz⟩,c2,fun y=>?_⟩;by_cases hy:o<=y/\y<o+z
 ·rw [if_pos hy];have hj:y-o<v.cells.toList.length:=by omega
  have:=c4 (by omega) (y-o) _ (cH hj);rw [show o+(y-o)=y by omega] at this;rw [this,cH hj]
 ·rw [if_neg hy];exact c3 y (by omega)
theorem Aj (cs us:bK) (o j:Nat) (hl:o+us.length<=cs.length):(pr cs o us)[j]? = if o<=j/\j<o+us.length then us[j-o]? else cs[j]?:=by
 unfold pr;rw [fq,JQ,eS,y8 (by omega)];by_cases h1:j<o
 ·rw [if_pos h1,ub,if_pos h1,if_neg (by omega)]
 ·rw [if_neg h1,JQ];by_cases h2:j<o+us.length
  ·rw [if_pos (by omega),if_pos ⟨by omega,h2⟩]
  ·rw [if_neg (by omega),if_neg (by omega),xi];congr 1; omega
theorem zJ {x':α} {Y:Operand} {k:Nat} {u:Value} {us:bK} (I:St W M T n G D F a w) (hX:ev G X=some (.pointer (some ⟨b,o+k,none⟩))) (hY:ev G Y=some u) (hu:u.cells.toList=us) (ht:qT P t=some (ag,z)) (q:Nat) (hq:D[q]? = some (.own v e R.size cl)) (j:Nat) (hj:F[j]? = some (ap R cl xs)) (ho:Nf v b o R.size i p) (hc:∀ k u,cs[k]? = some u->cl[p+k]? = some u) (hg:bO xs i=some x) (hrel:R.rel (dT T D) w cs x)
  (hz:us.length=z) (hl:Nat.ble (k+z) cs.length=true) (hnew:R.rel (dT T D) w (pr cs k us) x')
  (K':∀ cl' w',Kt (fun j=>v.ownBlock=some j) w w'->St W M T n G (D.set q (.own v e R.size cl')) (ap R cl' (xs.set i.toNat x')::F) a w'->K a w'):sA P ⟨none,.store t X Y,ty,pos,af,g⟩ a w K:=by
 have hmem:=aD hq;obtain⟨hown,hsz⟩:=I.own _ hmem;have hrow:aY R (dT T D) w cl xs:=I.get j hj;obtain⟨q1,q2,q3⟩:=ja hg;have hle:=cw hl;have hcl:=R.len hrel;obtain⟨off,m,c,rfl,rfl,rfl⟩:=ho;rcases hown with⟨h,_⟩|⟨gb,off',m',cap,row,h,p1,p2,p3,p4,p5,p6,p7⟩
 ·cases h
 ·injection h with h1 h2 h3;injection h1 with h1;injection h1 with h1 h4;subst h1 h4 h2 h3;have hm:m=xs.length:=za hsz (p1.symm.trans hrow.1);subst hm;have hlt:i.toNat<xs.length:=(cu.1 q3).1;have hin:i.toNat*R.size+R.size<=xs.length*R.size:=by
   have:(i.toNat+1)*R.size<=xs.length*R.size:=nY _ hlt;rw [jL] at this; omega
  have hcap:xs.length*R.size<=c*R.size:=nY _ p4;have hone:∀ y∈us,y.oneCell'=true:=by
   intro y hy;refine R.one hnew y ?_;unfold pr;exact oA _ (xj _ hy)
  subst hu;have hz2:u.cells.size=z:=by rw [<- hz]; simp
  obtain⟨row',hst,hrow',hsz',hget⟩:=BQ (P:=P) (o:=off+i.toNat*R.size+k) ht p3 hz (by omega) hone;have O:Kt (fun j=>(Value.slice (some ⟨b,off,none⟩) xs.length c).ownBlock=some j) w (w.setCells b (off+i.toNat*R.size+k) u.cells.toList):=(Kt.setCells _ _ _ _).mono fun j h=>by rw [h]; rfl
  have hclen:=hrow.1;have hown':pv (w.setCells b (off+i.toNat*R.size+k) u.cells.toList) 0 e R.size (.slice (some ⟨b,off,none⟩) xs.length c) (pr cl (i.toNat*R.size+k) u.cells.toList):=by
   refine .inr ⟨b,off,xs.length,c,row',rfl,?_,bY _,hrow',p4,p5,by rw [hsz']; exact p6,fun y v hv=>?_⟩
   ·unfold pr; simp only [bk,eS,mO]; omega
   ·rw [Aj _ _ _ _ (by omega)] at hv;rw [hget];by_cases hy:i.toNat*R.size+k<=y/\y<i.toNat*R.size+k+u.cells.toList.length
    ·rw [if_pos hy] at hv;rw [if_pos (by omega)];rw [show off+y-(off+i.toNat*R.size+k)=y-(i.toNat*R.size+k) by omega]; exact hv
    ·rw [if_neg hy] at hv;rw [if_neg (by omega)];exact p7 y v hv
  have hrows:aY R (dT T D) w (pr cl (i.toNat*R.size+k) u.cells.toList) (xs.set i.toNat x'):=by
   refine⟨by unfold pr; simp only [bk,eS,mO,HC]; omega,fun y z' hz'=>?_⟩;rw [Ay] at hz';by_cases hy:i.toNat=y
   ·rw [if_pos hy,if_pos hlt] at hz';simp only [cp] at hz';subst hz' hy;refine⟨_,hnew,fun s v hv=>?_⟩;rw [Aj _ _ _ _ (by omega)] at hv ⊢;by_cases hs:k<=s/\s<k+u.cells.toList.length
    ·rw [if_pos hs] at hv;rw [if_pos (by omega),show i.toNat*R.size+s-(i.toNat*R.size+k)=s-k by omega]; exact hv
    ·rw [if_neg hs] at hv;rw [if_neg (by omega)];exact hc s v hv
   ·rw [if_neg hy] at hz';obtain⟨ds,d1,d2⟩:=hrow.2 y z' hz';refine⟨ds,d1,fun s v hv=>?_⟩;have hsl:s<R.size:=by rw [<- R.len d1]; exact (cu.1 hv).1
    rw [Aj _ _ _ _ (by omega),if_neg]
    ·exact d2 s v hv
    ·rintro⟨r1,r2⟩;rcases y7 hy with hlt2 | hlt2
     ·have:(i.toNat+1)*R.size<=y*R.size:=nY _ hlt2;rw [jL] at this; omega
     ·have:(y+1)*R.size<=i.toNat*R.size:=nY _ hlt2;rw [jL] at this; omega
  have hS2:=I.fact (ap R (pr cl (i.toNat*R.size+k) u.cells.toList) (xs.set i.toNat x')) hrows;refine GP (by simp [execOp,I.ev hX,I.ev hY,hst]) (K' (pr cl (i.toNat*R.size+k) u.cells.toList) _ O ?_);exact hS2.turn hq O (r':=.own (.slice (some ⟨b,off,none⟩) xs.length c) e R.size (pr cl (i.toNat*R.size+k) u.cells.toList)) ⟨hown',hsz⟩ (fun j hj=>.inl hj)
theorem nO {T:Nat->Prop} {D:List cS} {i:Nat} (hi:D[i]? = some r):∀ k,dT (dT T (D.eraseIdx i)) [r] k↔dT T D k:=by
 intro k;constructor
 ·rintro ((O | ⟨s,hs,O⟩) | ⟨s,hs,O⟩)
  ·exact .inl O
  ·exact .inr ⟨s,IG hs,O⟩
  ·rw [dF] at hs; subst hs; exact .inr ⟨s,aD hi,O⟩
 ·rintro (O | ⟨s,hs,O⟩)
  ·exact .inl (.inl O)
  ·obtain⟨j,hj,e⟩:=JR hs;by_cases hji:j=i
   ·subst hji;have:s=r:=by rw [<- e]; exact (cu.1 hi).2
    subst this; exact .inr ⟨_,dF.2 rfl,O⟩
   ·refine .inl (.inr ⟨s,?_,O⟩);rw [nP];rcases y7 hji with h | h
    ·exact⟨j,by rw [DI,if_pos h,<- e]; exact cH hj⟩
    ·exact⟨j-1,by rw [DI,if_neg (by omega),show j-1+1=j by omega,<- e]; exact cH hj⟩
theorem St.zi (h:St W M T n G D F a w) (i:Nat) (hi:D[i]? = some (.box b cs t)):¬ dT T (D.eraseIdx i) b:=by
 rintro (O | ⟨s,hs,O⟩)
 ·exact (h.free _ (aD hi) b rfl).1 O
 ·obtain⟨l1,e1⟩:=cu.1 hi;obtain⟨z,hz⟩:=nP.1 hs;rw [DI] at hz;split at hz
  ·rename_i hzi;have hzl:=(cu.1 hz).1;have:=gC.1 h.apart z i hzl l1 hzi b (by rw [(cu.1 hz).2]; exact O);rw [e1] at this; exact this rfl
  ·have hzl:=(cu.1 hz).1;have:=gC.1 h.apart i (z+1) l1 hzl (by omega) b (by rw [e1]; rfl);rw [(cu.1 hz).2] at this; exact this O
theorem aI.lent {i:Nat} (hi:D[i]? = some r) (h:aI R (dT T D) w v xs):aI R (dT (dT T (D.eraseIdx i)) [r]) w v xs :=
 h.sub fun k O=>.inl ((nO hi k).1 O)
theorem aI.back {i:Nat} (hi:D[i]? = some r) (h:aI R (dT (dT T (D.eraseIdx i)) [r']) w v xs):aI R (dT T (D.set i r')) w v xs:=by
 refine h.sub fun k O=>.inl ?_;have hl:=(cu.1 hi).1;have:=(nO (T:=T) (D:=D.set i r') (i:=i) (r:=r') (by rw [E9 hl]) k).2 O;rwa [List.eraseIdx_set_eq] at this
theorem St.zb (h:St W M T n G D F a w) (i:Nat) (hi:D[i]? = some (.box b cs t)):w.heap[b]? = some (.cells cs.toArray t (0,0)):=h.own _ (aD hi)
theorem St.boxNew (h:St W No T n G D F a w) (i:Nat) (hi:D[i]? = some (.box b cs t)):W.heap.size<=b:=(h.free _ (aD hi) b rfl).2.resolve_left fun h=>h
end
theorem oZ {P:Program} {f:FuncId} {fn:Func} {c:Code} {args:bK} {w:World} {R:Value->World->Prop} (hf:P.funcs[f]? = some fn) (hb:fn.body=some c)
  (T:Nat->Prop) (n:Nat) (hn:fn.ntmps=n) (hT:∀ k,T k->k<w.heap.size) (hl:Nat.ble args.length n=true) {b:Nat} {cs:bK} {t:TypeId} (hrow:w.heap[b]? = some (.cells cs.toArray t (0,0))) (hTb:¬ T b)
  (h:∀ a,St w (fun k=>k=b) T n (n3 0 args) [.box b cs t] [] a w->c.wp P (bodyPost P fn (QW (fun k=>k=b) w R)) a w):bj P (fun k=>k=b) f args w R:=by
 refine calls_of_wp hf hb (h _ ?_);subst hn;have I:=St.start w (fun k=>k=b) T fn.ntmps args hT (cw hl) (n3 0 args) fun t v hv=>by
  obtain⟨h1,h2⟩:=BY args 0 t v hv;simpa using h2
 exact⟨I.size,I.defers,I.slots,I.base,fun r hr=>by rw [dF] at hr; subst hr; exact hrow,fun r hr k O=>by
  rw [dF] at hr; subst hr;simp only [cS.dom,cp] at O;subst O; exact⟨hTb,.inl rfl⟩,List.pairwise_singleton _ _,fun f hf=>(by cases hf),hT⟩
section
variable {P:Program} {W:World} {M T:Nat->Prop} {n:Nat} {G:List (Nat×Value)} {D:List cS} {F:List cL} {a:Act} {w:World} {K:Act->World->Prop}
theorem St.zm {e:Nat} {bt:TypeId} {rs:List cS} (h:St W (fun k=>k=b) T n G D F a w) (hi:Nc D rs) (i:Nat) (hd:D[i]? = some (.own v e R.size cl)) (j:Nat) (hj:F[j]? = some (ap R cl xs)) (q:Nat) (hq:D[q]? = some (.box b cs bt)) (hne:i≠q):kJ R T W w rs e v cl xs:=by
 have hm:=aD hd;refine⟨(h.own _ hm).1,fun k O=>(h.free _ hm k O).2.resolve_left fun h2=>?_,(h.get j hj:aY R (dT T D) w cl xs).keep (aj _ _) fun k O=>.inl (hi.sub k O)⟩;exact iU (l:=[]) h i hd O q hq rfl hne cc ⟨.blk (some b),dF.2 rfl,congrArg some h2.symm⟩
theorem St.turnAdds {w':World} (h:St W M T n G D F a w) {i:Nat} (hi:D[i]? = some r) (k:Kt (fun j=>r.dom j) w w') (hr:r'.ok w') (hd:∀ j,r'.dom j->r.dom j)
  (rs:List cS) (h1:∀ r∈rs,r.ok w'/\∀ k,r.dom k->w.heap.size<=k) (h2:rs.Pairwise fun r s=>∀ k,r.dom k->¬ s.dom k):St W M T n G (rs++D.set i r') F a w':=by
 have hb:=h.turn hi k hr (fun j hj=>.inl (hd j hj));have hlt:∀ s∈D.set i r',∀ j,s.dom j->j<w.heap.size/\(dT T D) j:=fun s hs j hj=>by
  rcases List.mem_or_eq_of_mem_set hs with hs | rfl
  ·exact⟨cS.lt (h.own s hs) j hj,.inr ⟨s,hs,hj⟩⟩
  ·exact⟨cS.lt (h.own r (aD hi)) j (hd j hj),.inr ⟨r,aD hi,hd j hj⟩⟩
 refine⟨hb.size,hb.defers,hb.slots,hb.base,?_,?_,?_,fun f hf=>f.keep (h.facts f hf) (k.mono fun j hj=>.inr ⟨r,aD hi,hj⟩) (fun j hj=>?_),hb.tlt⟩
 ·intro s hs;rcases dw.1 hs with hs | hs
  ·exact (h1 s hs).1
  ·exact hb.own s hs
 ·intro s hs j hj;rcases dw.1 hs with hs | hs
  ·have:=(h1 s hs).2 j hj;refine⟨fun ht=>?_,.inr ?_⟩
   ·have:=h.tlt j ht; omega
   ·have:=h.base.size; omega
  ·exact hb.free s hs j hj
 ·refine uw.2 ⟨h2,hb.apart,fun s hs u hu j hj hj2=>?_⟩;have:=(h1 s hs).2 j hj;have:=(hlt u hu j hj2).1;omega
 ·rcases hj with hj | ⟨s,hs,hj⟩
  ·exact .inl (.inl hj)
  ·rcases dw.1 hs with hs | hs
   ·exact .inr ((h1 s hs).2 j hj)
   ·exact .inl (hlt s hs j hj).2
theorem ij {i:Nat} (hi:D[i]? = some r) (rs:List cS) (w:World):Nw (dT (dT T (D.eraseIdx i)) (rs++[r'])) (dT T (rs++D.set i r')) w:=fun k O=>.inl (by
 rcases O with O | ⟨s,hs,O⟩
 ·exact .inl (.inl O)
 ·rcases dw.1 hs with hs | hs
  ·exact .inr ⟨s,dw.2 (.inl hs),O⟩
  ·have hl:=(cu.1 hi).1;have:=(nO (T:=T) (D:=D.set i r') (i:=i) (r:=r') (by rw [E9 hl]) k).2 (.inr ⟨s,hs,O⟩);rw [List.eraseIdx_set_eq] at this;rcases this with this | ⟨u,hu,O⟩
   ·exact .inl this
   ·exact .inr ⟨u,dw.2 (.inr hu),O⟩)
theorem n9 {d:Nat} {args:Array Operand} {tys:Array TypeId} {f:Nat} {vs:bK} {R:Value->World->Prop} {bt:TypeId} (I:St W M T n G D F a w) (hf:aS P f=true) (hargs:evs G args.toList=some vs) (hn:Nat.blt d n=true) (i:Nat) (hi:D[i]? = some (.box b cs bt)) (hc:bj P (fun k=>k=b) f vs w R)
  (k:∀ v w',R v w'->Kt (fun k=>k=b) w w'->∃ cs' rs,w'.heap[b]? = some (.cells cs'.toArray bt (0,0))/\(∀ r∈rs,r.ok w'/\∀ k,r.dom k->w.heap.size<=k)/\(rs.Pairwise fun r s=>∀ k,r.dom k->¬ s.dom k)/\∀ a,St W M T n ((d,v)::G) (rs++D.set i (.box b cs' bt)) F a w'->K a w'):sA P ⟨some d,.call { callee:=.value (.func f),args:=args,argTypes:=tys },ty,pos,af,g⟩ a w K :=
 xp (cap:=[]) rfl I rfl hf hargs (by rw [Ax]; exact hc) fun v w' O hr=>by
  obtain⟨cs',rs,h1,h2,h3,h4⟩:=k v w' hr O;exact h4 _ ((I.turnAdds hi (O.mono fun j hj=>by simp [cS.dom,hj]) (r':=.box b cs' bt) h1 (fun j hj=>hj) rs h2 h3).put hn v)
theorem aY.cut {T:Nat->Prop} {w:World} (h:aY R T w cl xs) {l q:Nat} (h1:l<=q) (h2:q<=xs.length):aY R T w ((cl.take (q*R.size)).drop (l*R.size)) ((xs.take q).drop l):=by
 obtain⟨a1,a2⟩:=h;have hq:q*R.size<=xs.length*R.size:=nY _ h2;refine⟨by simp only [mO,eS,a1]; rw [y8 hq,y8 h2,Nat.sub_mul],fun k x hx=>?_⟩;rw [xi,ub] at hx;split at hx
 ·rename_i hlt;obtain⟨cs,g1,g2⟩:=a2 _ x hx;refine⟨cs,g1,fun j u hu=>?_⟩;have hj:j<R.size:=by rw [<- R.len g1]; exact (cu.1 hu).1
  have:=g2 j u hu;rw [xi,ub,if_pos]
  ·rwa [show l*R.size+(k*R.size+j)=(l+k)*R.size+j by rw [jL]; omega]
  ·have:(l+k+1)*R.size<=q*R.size:=nY _ (by omega);rw [jL,jL] at this;omega
 ·cases hx
theorem SR {lo hi:Nat} (I:St W M T n G D F a w) (q:Nat) (hq:D[q]? = some (.own v e R.size cl)) (j:Nat) (hj:F[j]? = some (ap R cl xs)) (h1:lo<=hi) (h2:hi<=xs.length) :
  ∃ A c,v = .slice A xs.length c/\xs.length<=c/\c<=maxLen/\St W M T n G (D.set q (.own (.slice (if c=lo then A else A.map (·.add (lo*R.size))) (hi-lo) (c-lo)) e R.size ((cl.take (hi*R.size)).drop (lo*R.size)))) (ap R ((cl.take (hi*R.size)).drop (lo*R.size)) ((xs.take hi).drop lo)::F) a w:=by
 obtain⟨hown,hsz⟩:=I.own _ (aD hq);have hrow:aY R (dT T D) w cl xs:=I.get j hj;have hcut:=hrow.cut h1 h2;rcases hown with⟨rfl,rfl⟩|⟨gb,off,m,cap,row,rfl,p1,p2,p3,p4,p5,p6,p7⟩
 ·have h0:xs.length=0:=by
   have:=hrow.1.symm;rcases Nat.mul_eq_zero.1 this with h | h
   ·exact h
   ·omega
  have e1:lo=0:=by omega
  have e2:hi=0:=by omega
  subst e1 e2;refine⟨none,0,by rw [h0],by omega,bY _,?_⟩;have hs:=(I.fact (ap R _ _) hcut).turn hq (w':=w) (aj _ _) (r':=.own (.slice none 0 0) e R.size []) ⟨.inl ⟨rfl,rfl⟩,hsz⟩ (fun k O=>.inl O);simpa using hs
 ·have hm:m=xs.length:=za hsz (p1.symm.trans hrow.1);subst hm;refine⟨some ⟨gb,off,none⟩,cap,rfl,p4,p5,?_⟩;refine (I.fact (ap R _ _) hcut).turn hq (w':=w) (aj _ _) ⟨?_,hsz⟩ (fun k O=>.inl ?_)
  ·have U:(if cap=lo then (some ⟨gb,off,none⟩:Option Addr) else (some (⟨gb,off,none⟩:Addr)).map (·.add (lo*R.size)))=some ⟨gb,if cap=lo then off else off+lo*R.size,none⟩:=by
    split <;> simp [px]
   rw [U];refine .inr ⟨gb,_,_,_,row,rfl,?_,p2,p3,by omega,by omega,?_,?_⟩
   ·have hq2:hi*R.size<=xs.length*R.size:=nY _ h2;simp only [mO,eS,p1]; rw [y8 hq2,Nat.sub_mul]
   ·split
    ·rename_i hc; rw [hc,xh]; omega
    ·have hle:lo*R.size<=cap*R.size:=nY _ (by omega);rw [Nat.sub_mul]; omega
   ·intro k u hu;rw [xi,ub] at hu;split at hu
    ·rename_i hlt;have hne:¬ cap=lo:=fun hc=>by
      have:hi=lo:=by omega
      subst this; omega
     rw [if_neg hne];have:=p7 _ u hu;rwa [show off+(lo*R.size+k)=off+lo*R.size+k by omega] at this
    ·cases hu
  ·revert O;simp only [cS.dom];split <;> simp [Value.ownBlock,px]
theorem S3 {A:Option Addr} {m c:Nat} {lo hi:Int} (I:St W M T n G D F a w) (ht:n8 P t=some e) (he:qT P e=some (ag,sz)) (q1:0<=lo) (q2:lo<=hi) (q3:hi<=m) (p1:m<=c) (hv:v = .slice A m c) {E:Nat->Prop} {olo ohi:Option Operand} {k1 k2:IntKind} (hX:ev G X=some v) (hlo:(∃ x,olo=some x/\ev G x=some (.int k1 lo))∨(olo=none/\lo=0)) (hhi:(∃ x,ohi=some x/\ev G x=some (.int k2 hi))∨(ohi=none/\hi=m)) :
  Ye P ⟨d,.slice t X olo ohi none,ty,pos,af,g⟩ a E w (.slice (if c=lo.toNat then A else A.map (·.add (lo.toNat*sz))) (hi.toNat-lo.toNat) (c-lo.toNat)):=by
 subst hv;refine Ye.of fun w=>?_;have hb:=vL (P:=P) (isS:=true) (k1:=k1) (k2:=k2) q1 q2 q3 p1 w (olo.map a.eval) (ohi.map a.eval)
  (by
    rcases hlo with⟨x,rfl,hx⟩|⟨rfl,rfl⟩
    ·exact .inl (by rw [mJ,I.ev hx])
    ·exact .inr ⟨rfl,rfl⟩)
  (by
    rcases hhi with⟨x,rfl,hx⟩|⟨rfl,rfl⟩
    ·exact .inl (by rw [mJ,I.ev hx])
    ·exact .inr ⟨rfl,rfl⟩)
 simp [execOp,Instr.sliceAt,Instr.slice,run_underlying (wB ht),I.ev hX,hb,qf he]
theorem yB {ys:List α} {lo hi:Int} (I:St W M T n G D F a w) (ht:n8 P t=some e) (he:qT P e=some (ag,R.size)) (q:Nat) (hq:D[q]? = some (.own v e' R.size cl)) (j:Nat) (hj:F[j]? = some (ap R cl xs)) (hg:uV xs lo hi=some ys) :
  ∃ v',(∀ (T:Nat->Prop) (w:World),aI R T w v xs->aI R T w v' ys)/\(∀ {E:Nat->Prop} {d:Option Nat} {ty:TypeId} {X:Operand} {olo ohi:Option Operand} {pos:String} {af:Array Edge} {g:Option (Nat×Bool)} {k1 k2:IntKind},ev G X=some v->((∃ x,olo=some x/\ev G x=some (.int k1 lo))∨(olo=none/\lo=0))->((∃ x,ohi=some x/\ev G x=some (.int k2 hi))∨(ohi=none/\hi=xs.length))->Ye P ⟨d,.slice t X olo ohi none,ty,pos,af,g⟩ a E w v'):=by
 obtain⟨q1,q2,q3,rfl⟩:=xB hg;obtain⟨A,c,hv,h1,h2,hS'⟩:=SR (lo:=lo.toNat) (hi:=hi.toNat) I q hq j hj (by omega) (by omega);refine⟨_,fun T w h=>?_,fun hX hlo hhi=>S3 I ht he q1 q2 q3 h1 hv hX hlo hhi⟩;subst hv;refine h.cut (by omega) (by omega) _ (fun hlt b o U=>?_);rw [if_neg (by omega),U];simp [px]
end
end
section
open Go.RowKit
variable {r:Nat} {z:Value} {zc:bK}
variable {pos:String} {af:Array Edge} {g:Option (Nat×Bool)}
def co {κ ν:Type} (RK:aO κ) (ak:Bool) (RV:aO ν) (av:Bool) (T:Nat->Prop) (w:World) (es:Array MapEntry) (xs:List (κ×ν)):Prop :=
 es.size=xs.length/\∀ (i:Nat) (e:MapEntry) (x:κ×ν),es[i]? = some e->xs[i]? = some x->(∃ c,RK.rel T w c x.1/\e.key=bL ak c)/\∃ c,RV.rel T w c x.2/\e.val=bL av c
theorem co.keep {κ ν:Type} {RK:aO κ} {ak:Bool} {RV:aO ν} {av:Bool} {T T':Nat->Prop} {w w':World} {es:Array MapEntry} {xs:List (κ×ν)} (h:co RK ak RV av T w es xs) (k:Kt T w w') (hn:Nw T T' w):co RK ak RV av T' w' es xs :=
 ⟨h.1,fun i e x he hx=>by
  obtain⟨⟨c,h1,h2⟩,d,h3,h4⟩:=h.2 i e x he hx;exact⟨⟨c,RK.keep h1 k hn,h2⟩,d,RV.keep h3 k hn,h4⟩⟩
def rD {κ ν:Type} (RK:aO κ) (ak:Bool) (RV:aO ν) (av:Bool) (es:Array MapEntry) (xs:List (κ×ν)):cL:=⟨fun T w=>co RK ak RV av T w es xs,fun h k n=>h.keep k n⟩
def vx {κ ν:Type} (q:κ->κ->Bool) (k:κ):List (κ×ν)->Option Nat
 | []=>none
 | x::r=>cond (q k x.1) (some 0) ((vx q k r).map (· + 1))
def dx {κ ν:Type} (q:κ->κ->Bool) (k:κ):List (κ×ν)->Option ν
 | []=>none
 | x::r=>cond (q k x.1) (some x.2) (dx q k r)
def gT {κ ν:Type} (q:κ->κ->Bool) (k:κ) (v:ν):List (κ×ν)->List (κ×ν)
 | []=>[(k,v)]
 | x::r=>cond (q k x.1) ((k,v)::r) (x::gT q k v r)
def ui {κ ν:Type} (q:κ->κ->Bool) (k:κ):List (κ×ν)->List (κ×ν)
 | []=>[]
 | x::r=>cond (q k x.1) r (x::ui q k r)
theorem sY {κ ν:Type} {q:κ->κ->Bool} {k:κ}:∀ {xs:List (κ×ν)},vx q k xs=none->dx q k xs=none/\(∀ v,gT q k v xs=xs++[(k,v)])/\ui q k xs=xs
 | [],_=>⟨rfl,fun _=>rfl,rfl⟩
 | x::r,h=>by
  cases hq:q k x.1 with
  | true=>simp [vx,hq] at h
  | false =>
   simp only [vx,hq,cond_false,Option.map_eq_none_iff] at h;obtain⟨h1,h2,h3⟩:=sY h;exact⟨by simp [dx,hq,h1],fun v=>by simp [gT,hq,h2],by simp [ui,hq,h3]⟩
theorem sZ {κ ν:Type} {q:κ->κ->Bool} {k:κ}:∀ {xs:List (κ×ν)} {i:Nat},vx q k xs=some i->∃ x,xs[i]? = some x/\q k x.1=true/\dx q k xs=some x.2/\(∀ v,gT q k v xs=xs.set i (k,v))/\ui q k xs=xs.eraseIdx i
 | [],i,h=>by simp [vx] at h
 | x::r,i,h=>by
  cases hq:q k x.1 with
  | true =>
   simp only [vx,hq,cond_true,cp] at h;subst h;exact⟨x,rfl,hq,by simp [dx,hq],fun v=>by simp [gT,hq],by simp [ui,hq]⟩
  | false =>
   simp only [vx,hq,cond_false,Option.map_eq_some_iff] at h;obtain⟨j,h1,rfl⟩:=h;obtain⟨y,g1,g2,g3,g4,g5⟩:=sZ h1;exact⟨y,by simpa using g1,g2,by simp [dx,hq,g3],fun v=>by simp [gT,hq,g4],by simp [ui,hq,g5]⟩
structure AE {κ:Type} (P:Program) (t:TypeId) (RK:aO κ) (ak:Bool) (q:κ->κ->Bool):Prop where
 check:∀ (b:Bool) (T:Nat->Prop) (w0 w:World) (c:bK) (x:κ),RK.rel T w0 c x->(Instr.checkKey b 10000 t (bL ak c)).run P w = .ok () w
 eq:∀ (T T2:Nat->Prop) (w0 w1 w:World) (c d:bK) (x y:κ),RK.rel T w0 c x->RK.rel T2 w1 d y->(Op.equal t (bL ak c) (bL ak d)).run P w = .ok (q x y) w
 now:∃ kind,P.underlying t=some kind/\∀ (T T2:Nat->Prop) (w0 w1:World) (c d:bK) (x y:κ),RK.rel T w0 c x->RK.rel T2 w1 d y->Instr.sameNow kind (bL ak c) (bL ak d)=none∨Instr.sameNow kind (bL ak c) (bL ak d)=some (q x y)
 bits:∀ (T T2:Nat->Prop) (w0 w1:World) (c d:bK) (x y:κ),RK.rel T w0 c x->RK.rel T2 w1 d y->q x y=true->Instr.sameBits 10000 (bL ak d) (bL ak c)=true
def BU (es:List MapEntry) (i0:Nat):Option Nat->Option (Nat×Value)
 | none=>none
 | some j=>(es[j]?).map fun e=>(i0+j,e.val)
theorem Gk (e:MapEntry) (es:List MapEntry) (i0:Nat) (o:Option Nat):BU (e::es) i0 (o.map (· + 1))=BU es (i0+1) o:=by
 cases o with
 | none=>rfl
 | some j=>simp only [BU,mJ,E6]; rw [show i0+(j+1)=i0+1+j by omega]
section
variable {κ ν:Type} {P:Program} {t:TypeId} {RK:aO κ} {ak:Bool} {q:κ->κ->Bool} {T T2:Nat->Prop} {w0 w1:World} {c:bK} {k:κ}
theorem Ce (hK:AE P t RK ak q) (hc:RK.rel T2 w1 c k) (w:World):∀ (es:List MapEntry) (xs:List (κ×ν)) (i0:Nat),es.length=xs.length->(∀ (i:Nat) (e:MapEntry) (x:κ×ν),es[i]? = some e->xs[i]? = some x->∃ c,RK.rel T w0 c x.1/\e.key=bL ak c)->(Instr.findAsking t (bL ak c) es i0).run P w = .ok (BU es i0 (vx q k xs)) w
 | [],[],i0,_,_=>rfl
 | [],_::_,i0,h,_=>by simp at h
 | _::_,[],i0,h,_=>by simp at h
 | e::es,x::xs,i0,h,hr=>by
  obtain⟨d,h1,h2⟩:=hr 0 e x rfl rfl;have he:=hK.eq _ _ _ _ w _ _ _ _ hc h1;have ih:=Ce hK hc w es xs (i0+1) (by simpa using h) fun i e' x' a b=>hr (i+1) e' x' (by simpa using a) (by simpa using b);unfold Instr.findAsking;rw [h2,Sem.run_bind,he,Result.andThen_ok];unfold vx;cases hq:q k x.1 with
  | true=>simp [BU]
  | false =>
   rw [cond_false,Gk];simpa using ih
theorem Ji (hK:AE P t RK ak q) (hc:RK.rel T2 w1 c k) {kind:TypeDesc} (hn:∀ (T T2:Nat->Prop) (w0 w1:World) (c d:bK) (x y:κ),RK.rel T w0 c x->RK.rel T2 w1 d y->Instr.sameNow kind (bL ak c) (bL ak d)=none∨Instr.sameNow kind (bL ak c) (bL ak d)=some (q x y)) :
  ∀ (es:List MapEntry) (xs:List (κ×ν)) (i0:Nat),es.length=xs.length->(∀ (i:Nat) (e:MapEntry) (x:κ×ν),es[i]? = some e->xs[i]? = some x->∃ c,RK.rel T w0 c x.1/\e.key=bL ak c)->Instr.findNow kind (bL ak c) es i0=none∨Instr.findNow kind (bL ak c) es i0=some (BU es i0 (vx q k xs))
 | [],[],i0,_,_=>.inr rfl
 | [],_::_,i0,h,_=>by simp at h
 | _::_,[],i0,h,_=>by simp at h
 | e::es,x::xs,i0,h,hr=>by
  obtain⟨d,h1,h2⟩:=hr 0 e x rfl rfl;have ih:=Ji hK hc hn es xs (i0+1) (by simpa using h) fun i e' x' a b=>hr (i+1) e' x' (by simpa using a) (by simpa using b);unfold Instr.findNow;rw [h2];rcases hn _ _ _ _ _ _ _ _ hc h1 with h3 | h3
  ·rw [h3]; exact .inl rfl
  ·rw [h3];unfold vx;cases hq:q k x.1 with
   | true=>right; simp [BU]
   | false=>rw [cond_false,Gk]; exact ih
theorem tf (hK:AE P t RK ak q) (hc:RK.rel T2 w1 c k) (w:World) {es:List MapEntry} {xs:List (κ×ν)} (h:es.length=xs.length) (hr:∀ (i:Nat) (e:MapEntry) (x:κ×ν),es[i]? = some e->xs[i]? = some x->∃ c,RK.rel T w0 c x.1/\e.key=bL ak c):(Instr.findKey t (bL ak c) es).run P w = .ok (BU es 0 (vx q k xs)) w:=by
 obtain⟨kind,hu,hn⟩:=hK.now;unfold Instr.findKey;rw [Sem.run_bind,run_underlying hu,Result.andThen_ok];rcases Ji (T:=T) (w0:=w0) (ν:=ν) hK hc hn es xs 0 h hr with h3 | h3
 ·rw [h3]; exact Ce hK hc w es xs 0 h hr
 ·rw [h3]; rfl
end
theorem yE {P:Program} {w:World} {es:Array MapEntry} {clock:Nat} (hb:w.heap[r]? = some (.map es clock)):(getObj r).run P w = .ok (.map es clock) w:=by
 simp [getObj,Sem.run,hb]
theorem FY {P:Program} {w:World} {es:Array MapEntry} {clock:Nat} (o:Obj) (hb:w.heap[r]? = some (.map es clock)):(setObj r o).run P w = .ok () { w with heap:=w.heap.setIfInBounds r o }:=by
 simp [setObj,Sem.run,hb]
theorem si {w:World} {o o':Obj} (hb:w.heap[r]? = some o):(w.heap.setIfInBounds r o')[r]? = some o'/\∀ r',r'≠r->(w.heap.setIfInBounds r o')[r']? = w.heap[r']?:=by
 have hlt:r<w.heap.size:=(Ef.1 hb).1;exact⟨by simp [hlt],fun r' hne=>by simp [Ne.symm hne]⟩
def Kh (P:Program) (t:TypeId):Option (TypeId×TypeId):=match P.underlying t with
 | some (.map k e)=>some (k,e)
 | _=>none
theorem oI {P:Program} {t k e:TypeId} (h:Kh P t=some (k,e)):P.underlying t=some (.map k e):=by
 unfold Kh at h;split at h
 ·rename_i a b hu;simp only [cp,ze] at h;obtain⟨rfl,rfl⟩:=h;exact hu
 ·cases h
def Ps (P:Program) (t:TypeId):Option Value:=match P.info? t with
 | some i=>i.zero
 | none=>none
theorem Gc {P:Program} {t:TypeId} (h:Ps P t=some z) (w:World):(zeroValue t).run P w = .ok z w:=by
 unfold Ps at h;split at h
 ·rename_i i hi;simp [zeroValue,typeInfo,hi,h]
 ·cases h
section
variable {κ ν:Type} {P:Program} {W:World} {M T E:Nat->Prop} {n:Nat} {G G':List (Nat×Value)} {D D':List cS} {F F':List cL} {a:Act} {w w':World} {K:Act->World->Prop}
variable {kt et:TypeId} {RK:aO κ} {ak:Bool} {RV:aO ν} {av:Bool} {q:κ->κ->Bool} {b clock:Nat} {es:Array MapEntry} {xs:List (κ×ν)}
theorem St.mapOk (I:St W M T n G D F a w) (j:Nat) (hj:F[j]? = some (rD RK ak RV av es xs)):co RK ak RV av (dT T D) w es xs:=I.get j hj
theorem xu {T:Nat->Prop} {w:World} (h:co RK ak RV av T w es xs):es.toList.length=xs.length/\∀ (i:Nat) (e:MapEntry) (x:κ×ν),es.toList[i]? = some e->xs[i]? = some x->∃ c,RK.rel T w c x.1/\e.key=bL ak c :=
 ⟨by simpa using h.1,fun i e x he hx=>(h.2 i e x (by simpa using he) hx).1⟩
theorem tQ {d:Nat} {t ty:TypeId} (RK:aO κ) (ak:Bool) (RV:aO ν) (av:Bool) (I:St W M T n G D F a w) (hn:Nat.blt d n=true)
  (k:∀ b,w.heap.size<=b->∀ a w',Kt No w w'->St W M T n ((d,.map (some b))::G) (.obj b (.map #[] 0)::D) (rD RK ak RV av #[] []::F) a w'->K a w'):sA P ⟨some d,.makeMap t none,ty,pos,af,g⟩ a w K:=by
 have hr:(execOp a.eval ⟨some d,.makeMap t none,ty,pos,af,g⟩).run P w = .ok (.value (.map (some w.heap.size))) (w.alloc (.map #[] 0)):=by
  simp [execOp,Instr.makeMap]
 refine BK hr (k w.heap.size (cm _) _ _ (Kt.alloc _ _) ?_);exact ((I.add (Kt.alloc _ _) (.obj w.heap.size (.map #[] 0)) (heap_alloc_new w _) (fun k O=>by simp only [cS.dom,cp] at O; omega)).fact (rD RK ak RV av #[] []) ⟨rfl,fun i e x he hx=>by simp at he⟩).put hn _
theorem GU {t:TypeId} (ht:Kh P t=some (kt,et)) (hK:AE P kt RK ak q) {T T2:Nat->Prop} {w w0 w1:World} (hr:w.heap[b]? = some (.map es clock)) (hm:co RK ak RV av T w0 es xs) {c:bK} {key:κ} (hc:RK.rel T2 w1 c key) {z0:ν} (hz:Ps P et=some z) (hzc:z=bL av zc) (hz0:RV.rel T w0 zc z0) :
  ∃ cv,RV.rel T w0 cv ((dx q key xs).getD z0)/\(∀ ok,(Instr.lookup t (.map (some b)) (bL ak c) ok).run P w = .ok (if ok then .tuple #[bL av cv,.bool (dx q key xs).isSome] else bL av cv) w)/\True:=by
 obtain⟨hl,hkeys⟩:=xu hm;have hf:=tf hK hc w hl hkeys;have hch:∀ e,(Instr.checkKey e 10000 kt (bL ak c)).run P w = .ok () w:=fun e=>hK.check e _ _ w _ _ hc;have hzr:=Gc (P:=P) hz w;cases hp:vx q key xs with
 | none =>
  obtain⟨g1,_,_⟩:=sY hp;rw [hp] at hf;refine⟨zc,by rw [g1]; exact hz0,fun ok=>?_,trivial⟩;cases ok <;> simp [Instr.lookup,run_underlying (oI ht),yE hr,hch,hf,BU,hzr,hzc,g1]
 | some i =>
  obtain⟨x,hx,_,g1,_,_⟩:=sZ hp;rw [hp] at hf;have hi:i<es.toList.length:=by rw [hl]; exact (cu.1 hx).1
  have he:es.toList[i]? = some es.toList[i]:=cH hi;obtain⟨_,cv,h3,h4⟩:=hm.2 i _ x (by rw [<- Array.getElem?_toList]; exact he) hx;refine⟨cv,by rw [g1]; exact h3,fun ok=>?_,trivial⟩;have hat:BU es.toList 0 (some i)=some (i,es.toList[i].val):=by simp only [BU,he,mJ,pa]
  rw [hat] at hf;cases ok <;> simp only [Instr.lookup,Sem.run_bind,run_underlying (oI ht),Result.andThen_ok,yE hr,hch,hf,h4,g1,Sem.run_pure,Option.isSome_some,E1,if_false,if_true]
theorem PU {t:TypeId} (I:St W M T n G D F a w) (ht:Kh P t=some (kt,et)) (hK:AE P kt RK ak q) (i:Nat) (hi:D[i]? = some (.obj b (.map es clock))) (j:Nat) (hj:F[j]? = some (rD RK ak RV av es xs)) {c:bK} {key:κ} (hc:RK.rel (dT T D) w c key) {z0:ν} (hz:Ps P et=some z) (hzc:z=bL av zc) (hz0:RV.rel (dT T D) w zc z0) :
  ∃ cv,RV.rel (dT T D) w cv ((dx q key xs).getD z0)/\(∀ {E:Nat->Prop} {d:Option Nat} {X Y:Operand} {ok:Bool} {ty:TypeId} {pos:String} {af:Array Edge} {g:Option (Nat×Bool)},ev G X=some (.map (some b))->ev G Y=some (bL ak c)->¬ E b ->
   Ye P ⟨d,.lookup t X Y ok,ty,pos,af,g⟩ a E w (if ok then .tuple #[bL av cv,.bool (dx q key xs).isSome] else bL av cv)):=by
 have hr:w.heap[b]? = some (.map es clock):=I.own _ (aD hi);have hm:=I.mapOk j hj;obtain⟨cv,h1,h2,_⟩:=GU (P:=P) ht hK hr hm hc hz hzc hz0;refine⟨cv,h1,fun hX hY hE w' O=>?_⟩;have hr':=(O.block b (Ef.1 hr).1 hE).trans hr;obtain⟨cv2,h3,h4,_⟩:=GU (P:=P) ht hK hr' hm hc hz hzc hz0;have e1:=I.ev hX;have e2:=I.ev hY;have hrun:∀ ok,(Instr.lookup t (.map (some b)) (bL ak c) ok).run P w' = .ok (if ok then .tuple #[bL av cv,.bool (dx q key xs).isSome] else bL av cv) w':=fun ok=>by
  obtain⟨hl,hkeys⟩:=xu hm;have a1:=h2 ok;have hf:=tf hK hc w hl hkeys;have hf':=tf hK hc w' hl hkeys;have hch:∀ e (w:World),(Instr.checkKey e 10000 kt (bL ak c)).run P w = .ok () w:=fun e w=>hK.check e _ _ w _ _ hc;have hzr:=Gc (P:=P) hz;revert a1;cases hp:BU es.toList 0 (vx q key xs) with
  | none =>
   rw [hp] at hf hf';cases ok <;> simp [Instr.lookup,run_underlying (oI ht),yE hr,yE hr',hch,hf,hf',hzr]
  | some y =>
   rw [hp] at hf hf';cases ok <;> simp [Instr.lookup,run_underlying (oI ht),yE hr,yE hr',hch,hf,hf']
 simp [execOp,e1,e2,hrun]
theorem nx {t:TypeId} (I:St W M T n G D F a w) (ht:Kh P t=some (kt,et)) (hK:AE P kt RK ak q) (i:Nat) (hi:D[i]? = some (.obj b (.map es clock))) (j:Nat) (hj:F[j]? = some (rD RK ak RV av es xs)) {c:bK} {key:κ} (hc:RK.rel (dT T D) w c key) {z0 u:ν} (hz:Ps P et=some z) (hzc:z=bL av zc) (hz0:RV.rel (dT T D) w zc z0) (hu:some ((dx q key xs).getD z0)=some u) :
  ∃ cv,RV.rel (dT T D) w cv u/\(∀ {E:Nat->Prop} {d:Option Nat} {X Y:Operand} {ok:Bool} {ty:TypeId} {pos:String} {af:Array Edge} {g:Option (Nat×Bool)},ev G X=some (.map (some b))->ev G Y=some (bL ak c)->¬ E b ->
   Ye P ⟨d,.lookup t X Y ok,ty,pos,af,g⟩ a E w (if ok then .tuple #[bL av cv,.bool (dx q key xs).isSome] else bL av cv)):=by
 obtain rfl:=cC hu;exact PU I ht hK i hi j hj hc hz hzc hz0
theorem sv {w:World} {b:Nat} {o o':Obj} (hr:w.heap[b]? = some o):Kt (fun k=>some b=some k) w { w with heap:=w.heap.setIfInBounds b o' } :=
 ⟨rfl,rfl,rfl,by simp,fun k _ hn=>(si (o':=o') hr).2 k fun e=>hn (by rw [e])⟩
theorem CQ {t ty:TypeId} {X Y Z:Operand} (I:St W M T n G D F a w) (ht:Kh P t=some (kt,et)) (hK:AE P kt RK ak q) (i:Nat) (hi:D[i]? = some (.obj b (.map es clock))) (j:Nat) (hj:F[j]? = some (rD RK ak RV av es xs))
  {c cv:bK} {key:κ} {val:ν} (hc:RK.rel (dT T D) w c key) (hv:RV.rel (dT T D) w cv val) (hX:ev G X=some (.map (some b))) (hY:ev G Y=some (bL ak c)) (hZ:ev G Z=some (bL av cv))
  (k:∀ es' ck' w',Kt (fun j=>j=b) w w'->St W M T n G (D.set i (.obj b (.map es' ck'))) (rD RK ak RV av es' (gT q key val xs)::F) a w'->K a w'):sA P ⟨none,.mapUpdate t X Y Z,ty,pos,af,g⟩ a w K:=by
 have hr:w.heap[b]? = some (.map es clock):=I.own _ (aD hi);have hm:=I.mapOk j hj;obtain⟨hl,hkeys⟩:=xu hm;have hf:=tf hK hc w hl hkeys;have hch:=hK.check false _ _ w _ _ hc;have fin:∀ es' ck',(Instr.mapUpdate t (.map (some b)) (bL ak c) (bL av cv)).run P w = .ok () { w with heap:=w.heap.setIfInBounds b (.map es' ck') }->co RK ak RV av (dT T D) w es' (gT q key val xs)->sA P ⟨none,.mapUpdate t X Y Z,ty,pos,af,g⟩ a w K:=fun es' ck' hrun hok=>by
  refine GP (w':={ w with heap:=w.heap.setIfInBounds b (.map es' ck') }) (by simp [execOp,I.ev hX,I.ev hY,I.ev hZ,hrun]) (k es' ck' _ ((sv hr).mono fun j hj=>(cC hj).symm) ?_);exact (I.fact (rD RK ak RV av es' _) hok).turn hi (sv hr) (r':=.obj b (.map es' ck')) (si hr).1 fun j hj=>.inl hj
 cases hp:vx q key xs with
 | none =>
  obtain⟨_,g2,_⟩:=sY hp;rw [hp] at hf;refine fin (es.push { key:=bL ak c,val:=bL av cv,born:=clock }) (clock+1) ?_ ⟨by rw [g2]; simp [hm.1],fun z e x he hx=>?_⟩
  ·simp [Instr.mapUpdate,run_underlying (oI ht),yE hr,hch,hf,BU,FY _ hr]
  ·rw [g2] at hx;by_cases hz:z<xs.length
   ·rw [se hz] at hx;rw [QI (by rw [hm.1]; exact hz)] at he;exact hm.2 z e x (by rw [<- he]; exact (BT _)) hx
   ·rw [ua (by omega)] at hx;obtain rfl:z=xs.length:=by
     rcases gD xs.length z with h | h
     ·rw [E8 (by simp; omega)] at hx; cases hx
     ·omega
    simp at hx;subst hx;rw [<- hm.1,Ow] at he;simp only [cp] at he;subst he;exact⟨⟨c,hc,rfl⟩,cv,hv,rfl⟩
 | some p =>
  obtain⟨x0,hx0,hq0,_,g2,_⟩:=sZ hp;have hpi:p<es.size:=by rw [hm.1]; exact (cu.1 hx0).1
  have he0:es[p]? = some es[p]:=BT hpi;obtain⟨⟨d0,hd0,hk0⟩,_⟩:=hm.2 p _ x0 he0 hx0;have hbits:=hK.bits _ _ _ _ _ _ _ _ hc hd0 hq0;rw [hp] at hf;refine fin (es.modify p fun e=>{ e with key:=bL ak c,val:=bL av cv }) clock ?_ ⟨by rw [g2]; simp [hm.1],fun z e x he hx=>?_⟩
  ·have hat:BU es.toList 0 (some p)=some (p,es[p].val):=by simp [BU,he0]
   rw [hat] at hf;have hkt:(Instr.keyThatStays (((es[p]?).map (·.key)).getD (bL ak c)) (bL ak c)).run P w = .ok (bL ak c) w:=by
    rw [he0];simp only [mJ,Bf,hk0,Instr.keyThatStays,hbits,if_true,Sem.run_pure]
   simp only [Instr.mapUpdate,Sem.run_bind,run_underlying (oI ht),Result.andThen_ok,yE hr,hch,hf,hkt,FY _ hr]
  ·rw [g2] at hx;by_cases hz:p=z
   ·subst hz;rw [E9 (by rw [<- hm.1]; exact hpi)] at hx;simp only [cp] at hx;subst hx;rw [HA,if_pos rfl,he0] at he;simp only [mJ,cp] at he;subst he;exact⟨⟨c,hc,rfl⟩,cv,hv,rfl⟩
   ·rw [List.getElem?_set_ne hz] at hx;rw [HA,if_neg hz] at he;exact hm.2 z e x he hx
end
end
section
open Go.RowKit
variable {pos:String} {af:Array Edge} {g:Option (Nat×Bool)}
def MD (D0:List cS):Nat->Prop:=fun k=>∃ r∈D0,r.dom k
structure sS (T:Nat->Prop) (w:World) (D0:List cS):Prop where
 own:∀ r∈D0,r.ok w
 free:∀ r∈D0,∀ k,r.dom k->¬ T k
 apart:D0.Pairwise fun r s=>∀ k,r.dom k->¬ s.dom k
structure iq (W w:World) (D0 rs:List cS):Prop where
 own:∀ r∈rs,r.ok w
 from_:∀ r∈rs,∀ k,r.dom k->MD D0 k∨W.heap.size<=k
 apart:rs.Pairwise fun r s=>∀ k,r.dom k->¬ s.dom k
theorem cW {P:Program} {f:FuncId} {fn:Func} {c:Code} {args:bK} {w:World} {R:Value->World->Prop} {D0:List cS} (hf:P.funcs[f]? = some fn) (hb:fn.body=some c)
  (T:Nat->Prop) (n:Nat) (hn:fn.ntmps=n) (hT:∀ k,T k->k<w.heap.size) (hl:Nat.ble args.length n=true) (hD:sS T w D0)
  (h:∀ a,St w (MD D0) T n (n3 0 args) D0 [] a w->c.wp P (bodyPost P fn (QW (MD D0) w R)) a w):bj P (MD D0) f args w R:=by
 refine calls_of_wp hf hb (h _ ?_);subst hn;have I:=St.start w (MD D0) T fn.ntmps args hT (cw hl) (n3 0 args) fun t v hv=>by
  obtain⟨h1,h2⟩:=BY args 0 t v hv;simpa using h2
 exact⟨I.size,I.defers,I.slots,I.base,hD.own,fun r hr k O=>⟨hD.free r hr k O,.inl ⟨r,hr,O⟩⟩,hD.apart,fun f hf=>(by cases hf),hT⟩
section
variable {P:Program} {W:World} {M T E:Nat->Prop} {n:Nat} {G G':List (Nat×Value)} {D D' D0 Dr rs:List cS} {F F':List cL} {a:Act} {w w':World} {K:Act->World->Prop}
theorem St.zd (I:St W (MD D0) T n G rs F a w):iq W w D0 rs:=⟨I.own,fun r hr k O=>(I.free r hr k O).2,I.apart⟩
theorem St.reD (I:St W M T n G D F a w) (is:List Nat) (hn:is.Nodup) (hd:pq D is D'):St W M T n G D' F a w :=
 I.res (fun r hr=>hd.mem r hr) (hd.pw I.apart hn)
theorem St.dok (I:St W M T n G (D0++Dr) F a w):sS (dT T Dr) w D0:=by
 obtain⟨h1,h2,h3⟩:=uw.1 I.apart;refine⟨fun r hr=>I.own r (oA _ hr),fun r hr k O ht=>?_,h1⟩;rcases ht with ht | ⟨s,hs,hk2⟩
 ·exact (I.free r (oA _ hr) k O).1 ht
 ·exact h3 r hr s hs k O hk2
theorem Gz:∀ k,dT (dT T Dr) D0 k↔dT T (D0++Dr) k:=fun k=>by
 unfold dT;constructor
 ·rintro ((h | ⟨r,hr,O⟩) | ⟨r,hr,O⟩)
  ·exact .inl h
  ·exact .inr ⟨r,xj _ hr,O⟩
  ·exact .inr ⟨r,oA _ hr,O⟩
 ·rintro (h | ⟨r,hr,O⟩)
  ·exact .inl (.inl h)
  ·rcases dw.1 hr with hr | hr
   ·exact .inr ⟨r,hr,O⟩
   ·exact .inl (.inr ⟨r,hr,O⟩)
theorem St.getD (I:St W M T n G (D0++Dr) F a w) (i:Nat) {f:cL} (hi:F[i]? = some f):f.p (dT (dT T Dr) D0) w :=
 f.keep (I.get i hi) (aj _ _) fun k O=>.inl ((Gz k).1 O)
theorem St.zt (I:St W M T n G (D0++Dr) F a w):∀ k,dT T Dr k->k<w.heap.size:=fun k O=>I.dlt k (by
 rcases O with h | ⟨r,hr,h⟩
 ·exact .inl h
 ·exact .inr ⟨r,xj _ hr,h⟩)
theorem ax (w:World):Nw (dT (dT T Dr) rs) (dT T (rs++Dr)) w:=fun k O=>.inl ((Gz k).2 O)
theorem St.swapD (I:St W M T n G (D0++Dr) F a w) (O:Kt (MD D0) w w') (hN:iq w w' D0 rs):St W M T n G (rs++Dr) F a w':=by
 obtain⟨h1,h2,h3⟩:=uw.1 I.apart;have m0:∀ k,MD D0 k->¬ T k/\(M k∨W.heap.size<=k)/\dT T (D0++Dr) k/\k<w.heap.size:=fun k ⟨r,hr,O⟩=>by
  have:=I.free r (oA _ hr) k O;exact⟨this.1,this.2,.inr ⟨r,oA _ hr,O⟩,cS.lt (I.own r (oA _ hr)) k O⟩
 have hr0:∀ s∈Dr,∀ k,s.dom k->¬ MD D0 k/\k<w.heap.size:=fun s hs k O=>⟨fun ⟨r,hr,hk2⟩=>h3 r hr s hs k hk2 O,cS.lt (I.own s (xj _ hs)) k O⟩;have hsz:=I.base.size;refine⟨I.size,I.defers,I.slots,I.base.step O fun k h=>(m0 k h).2.1,fun r hr=>?_,fun r hr k hkd=>?_,uw.2 ⟨hN.apart,h2,fun r hr s hs k hkr hks=>?_⟩,fun f hf=>f.keep (I.facts f hf) (O.mono fun k h=>(m0 k h).2.2.1) fun k hkd=>?_,fun k h=>xg (I.tlt k h) O.size⟩
 ·rcases dw.1 hr with hr | hr
  ·exact hN.own r hr
  ·exact cS.keep (I.own r (xj _ hr)) fun k hkd=>O.block k (hr0 r hr k hkd).2 (hr0 r hr k hkd).1
 ·rcases dw.1 hr with hr | hr
  ·rcases hN.from_ r hr k hkd with h | h
   ·exact⟨(m0 k h).1,(m0 k h).2.1⟩
   ·exact⟨fun ht=>by have:=I.tlt k ht; omega,.inr (by omega)⟩
  ·exact I.free r (xj _ hr) k hkd
 ·have h4:=hr0 s hs k hks;rcases hN.from_ r hr k hkr with h | h
  ·exact h4.1 h
  ·omega
 ·rcases hkd with h | ⟨r,hr,hkd⟩
  ·exact .inl (.inl h)
  ·rcases dw.1 hr with hr | hr
   ·rcases hN.from_ r hr k hkd with h | h
    ·exact .inl (m0 k h).2.2.1
    ·exact .inr h
   ·exact .inl (.inr ⟨r,xj _ hr,hkd⟩)
theorem ba {d:Nat} {ty:TypeId} {args:Array Operand} {tys:Array TypeId} {f:Nat} {vs:bK} {R:Value->World->Prop} (I:St W M T n G (D0++Dr) F a w) (hf:aS P f=true) (hargs:evs G args.toList=some vs) (hn:Nat.blt d n=true) (hc:bj P (MD D0) f vs w R)
  (k:∀ v w',R v w'->∀ a,Kt (MD D0) w w'->(∀ rs,iq w w' D0 rs->St W M T n ((d,v)::G) (rs++Dr) F a w')->K a w'):sA P ⟨some d,.call { callee:=.value (.func f),args:=args,argTypes:=tys },ty,pos,af,g⟩ a w K :=
 xp (cap:=[]) rfl I rfl hf hargs (by rw [Ax]; exact hc) fun v w' O hr=>k v w' hr _ O (fun rs h=>(I.swapD O h).put hn v)
end
end
section
open Go.RowKit
variable {d:Option Nat} {t ty:TypeId} {x:Operand}
variable {pos:String} {af:Array Edge} {g:Option (Nat×Bool)}
def cy (s:ByteArray):List Int:=s.toList.map fun c=>(c.toNat:Int)
def aV (l:List Int):ByteArray:=⟨(l.map fun n=>UInt8.ofNat n.toNat).toArray⟩
def sR (k:IntKind) (x n:Int):Int:=k.wrap (x*2 ^ (min n.toNat k.bits))
def kf (k:IntKind) (x n:Int):Int:=x.fdiv (2 ^ (min n.toNat k.bits))
theorem cP (s:ByteArray):(cy s).length=s.size:=by
 unfold cy;rw [oz,ByteArray.toList_eq]; rfl
theorem Dt (s:ByteArray):Lib.strCells s=(cy s).map (Value.int .u8):=by
 unfold Lib.strCells cy;rw [ByteArray.toList_eq,AA]; rfl
theorem Di (T:Nat->Prop) (w:World):∀ (l:List Int),aY (aO.int .u8) T w (l.map (Value.int .u8)) l
 | l=>⟨by simp [aO.int],fun k x hx=>⟨[.int .u8 x],rfl,fun j u hu=>by
  cases j with
  | zero=>simp only [E7,cp] at hu; subst hu; simp [aO.int,hx]
  | succ j=>simp at hu⟩⟩
theorem Eb {T:Nat->Prop} {w:World} {cl:bK} {l:List Int} (h:aY (aO.int .u8) T w cl l):cl=l.map (Value.int .u8):=by
 obtain⟨h1,h2⟩:=h;have h1:cl.length=l.length:=by simpa [aO.int] using h1
 apply List.ext_getElem (by simpa using h1);intro i hi hj;have hi':i<l.length:=by omega
 obtain⟨cs,h3,h4⟩:=h2 i _ (cH hi');have h3:cs=[.int .u8 l[i]]:=h3;subst h3;have:=h4 0 _ rfl;have hs:(aO.int .u8).size=1:=rfl;rw [hs,Nat.mul_one,qi,cH hi] at this;simp only [cp] at this;rw [this]; simp
section
variable {P:Program}
theorem xM (w:World) (t u ty e:TypeId) (i:TypeInfo) (ht:P.underlying t=some (.slice e)) (hu:P.underlying u=some .string) (hi:P.info? e=some i) (hs1:i.size=1)
  (b off sLen sCap:Nat) (s:ByteArray) (hroom:sLen+s.size<=sCap) (hc:∀ j,j<s.size->(w.cell? ⟨b,off+sLen+j,none⟩).isSome=true) (hf:∀ j,j<s.size->w.frozen? ⟨b,off+sLen+j,none⟩=false) :
  (Builtin.append_ #[t,u] ty #[.slice (some ⟨b,off,none⟩) sLen sCap,.string s]).run P w = .ok (.slice (some ⟨b,off,none⟩) (sLen+s.size) sCap) (w.setCells b (off+sLen) (Lib.strCells s)):=by
 have hfc:=Lib.run_firstCells_string (P:=P) w 1 s;have hst:=run_storeCells_cells (P:=P) b (off+sLen) (Lib.strCells s) 0 w (by simpa [Lib.strCells_length] using hc) (by simpa [Lib.strCells_length] using hf) (Lib.strCells_oneCell s);simp only [qi] at hst;simp [Builtin.append_,run_underlying ht,run_underlying hu,sizeOf,typeInfo,hi,hs1,Builtin.lenOf,hroom,hfc,Addr.add_lit,hst]
theorem Dl (w:World) (t u ty e:TypeId) (E:Nb P t e 1 1) (hu:P.underlying u=some .string) (v:Value) (xs:bK) (hown:pv w 0 e 1 v xs) (s:ByteArray) (h63:xs.length+s.size<=140737488355328) :
  ∃ v' w',(Builtin.append_ #[t,u] ty #[v,.string s]).run P w = .ok v' w'/\pv w' 0 e 1 v' (xs++Lib.strCells s)/\w.grownBy w' v.ownBlock/\(v'.ownBlock=v.ownBlock∨v'.ownBlock=some w.heap.size):=by
 obtain⟨ht,⟨i,z,hi,hz,hsize,hby,hzs⟩,hpos⟩:=E;have hsl:=Lib.strCells_length s;have grown:∀ (old n:Nat),xs.length=n->old<n+s.size ->
   pv (w.drew.alloc (.cells (xs.toArray++(Lib.strCells s).toArray++Builtin.zeroCells z.cells (grownCap w (n+s.size) old e-(n+s.size))) e)) 0 e 1
    (.slice (some ⟨w.heap.size,0,none⟩) (n+s.size) (grownCap w (n+s.size) old e)) (xs++Lib.strCells s):=by
  intro old n hx ho;have hge:=grownCap_ge w (n+s.size) old e;have hcm:grownCap w (n+s.size) old e<=maxLen:=grownCap_le_maxLen w (n+s.size) old e (by unfold maxLen; omega);refine .inr ⟨w.heap.size,0,n+s.size,_,_,rfl,by rw [bk,hx,hsl]; omega,bY _,.of (heap_alloc_new w.drew _),hge,hcm,?_,?_⟩
  ·simp only [Array.size_append,F9,size_zeroCells,hzs,hx,hsl];omega
  ·intro j u hu;rw [pa,Ou (by
    have:=(cu.1 hu).1;simpa using this)]
   simpa using hu
 rcases hown with⟨rfl,rfl⟩|⟨g,off,n,cap,cs,rfl,a1,hb,hg,hnc,hc,hsz,hcs⟩
 ·by_cases h0:s.size=0
  ·have hn:Lib.strCells s=[]:=DH (by rw [hsl]; exact h0);refine⟨.slice none 0 0,w,?_,.inl ⟨rfl,by rw [hn]; rfl⟩,World.grownBy.refl w _,.inl rfl⟩;have hfc:=Lib.run_firstCells_string (P:=P) w 1 s;rw [h0] at hfc;simp [Builtin.append_,run_underlying ht,run_underlying hu,sizeOf,typeInfo,hi,hsize,Builtin.lenOf,h0,hfc,storeCells]
  ·have hr:=run_append_nil_string (P:=P) w t u ty e i z ht hu hi hz s (by omega) (by simp at h63; omega) (by simp at h63; rw [hby]; omega);have hgr:=grown 0 0 rfl (by omega);have he:s.data.map (fun b=>Value.int .u8 b.toNat)=(Lib.strCells s).toArray:=by unfold Lib.strCells; apply Array.ext'; simp
   simp only [pa,Array.empty_append] at hgr;rw [he] at hr;refine⟨_,_,hr,?_,⟨rfl,rfl,rfl,by simp,fun k O _=>Below.heap_alloc w.drew _ k O⟩,.inr rfl⟩;simpa using hgr
 ·have hn:n=xs.length:=by omega
  by_cases hroom:n+s.size<=cap
  ·have hr:=xM (P:=P) w t u ty e i ht hu hi hsize g off n cap s hroom
    (fun j hj=>by rw [hg.cell,BT (by omega)]; rfl)
    (fun j hj=>hg.free (by omega))
   obtain⟨fz,hg0,hfz⟩:=id hg;obtain⟨cs',c1,c2,c3,c4⟩:=nq g e fz (Lib.strCells s) (off+n) w cs hg0;refine⟨_,_,hr,.inr ⟨g,off,n+s.size,cap,cs',rfl,by rw [bk,hsl]; omega,hb,⟨fz,c1,by rw [c2]; exact hfz⟩,hroom,hc,by rw [c2]; exact hsz,fun j u hu=>?_⟩,w6 w g _ _,.inl rfl⟩;by_cases hj:j<xs.length
   ·rw [se hj] at hu;rw [c3 _ (by omega)];exact hcs j u hu
   ·rw [ua (by omega)] at hu;have:=c4 (by rw [hsl]; omega) (j-xs.length) u hu;rwa [show off+n+(j-xs.length)=off+j by omega] at this
  ·have hr:=Lib.run_append_grow_string (P:=P) w t u ty e i z ht hu hi hz ⟨g,off,none⟩ n cap xs (by rw [hsize]; omega) (fun j u hu=>by rw [Addr.add_lit,hg.cell]; exact hcs j u hu) s (by omega) (by omega)
    (growslice_fits (by omega) (by rw [hby]; omega))
   exact⟨_,_,hr,grown cap n hn.symm (by omega),⟨rfl,rfl,rfl,by simp,fun k O _=>Below.heap_alloc w.drew _ k O⟩,.inr rfl⟩
end
section
variable {P:Program} {W:World} {M T E:Nat->Prop} {n:Nat} {G G':List (Nat×Value)} {D D':List cS} {F F':List cL} {a:Act} {w w':World} {K:Act->World->Prop}
theorem DC {t':TypeId} {y:Operand} {k k':IntKind} {p q:Int} (I:St W M T n G D F a w) (hx:ev G x=some (.int k p)) (hy:ev G y=some (.int k' q)) (hq:decide (0<=q)=true):Ye P ⟨d,.binOp .shl t x y t',ty,pos,af,g⟩ a E w (.int k (sR k p q)) :=
 Ye.of fun w=>by
  have h1:=I.ev hx;have h2:=I.ev hy;have h3:¬ q<0:=by have:=of_decide_eq_true hq; omega
  simp [execOp,h1,h2,eqGuard,binOp,Op.shift,h3,sR]
theorem By {t':TypeId} {y:Operand} {k k':IntKind} {p q:Int} (I:St W M T n G D F a w) (hx:ev G x=some (.int k p)) (hy:ev G y=some (.int k' q)) (hq:decide (0<=q)=true):Ye P ⟨d,.binOp .shr t x y t',ty,pos,af,g⟩ a E w (.int k (kf k p q)) :=
 Ye.of fun w=>by
  have h1:=I.ev hx;have h2:=I.ev hy;have h3:¬ q<0:=by have:=of_decide_eq_true hq; omega
  simp [execOp,h1,h2,eqGuard,binOp,Op.shift,h3,kf]
theorem Sk {s:ByteArray} {d:Nat} {src e:TypeId} (I:St W M T n G D F a w) (hx:ev G x=some (.string s)) (hs:P.underlying src=some .string) (ht:P.underlying t=some (.slice e)) (he:P.underlying e=some (.int .u8)) (hroom:ce s.size=true) (hn:Nat.blt d n=true)
  (k:∀ v cl a w',Kt No w w'->St W M T n ((d,v)::G) (.own v e (aO.int .u8).size cl::D) (ap (aO.int .u8) cl (cy s)::F) a w'->K a w'):sA P ⟨some d,.convert src t x,ty,pos,af,g⟩ a w K:=by
 have h1:s.size<=4294967296:=Dh hroom;have hrun:(execOp a.eval ⟨some d,.convert src t x,ty,pos,af,g⟩).run P w = .ok (.value (.slice (some ⟨w.heap.size,0,none⟩) s.size (grownCap w s.size 0 e))) (Lib.bytesWorld w e s):=by
  have:=Lib.run_convert_string_bytes (P:=P) w src t e s hs ht he;simp [execOp,I.ev hx,this]
 have hge:=grownCap_ge w s.size 0 e;have hcm:grownCap w s.size 0 e<=maxLen:=grownCap_le_maxLen w s.size 0 e (by unfold maxLen; omega);have O:Kt No w (Lib.bytesWorld w e s):=Kt.ofBelow (Go.Joins.below_bytesWorld _ _ _ _ (cm _));have hsz:(Lib.bytesCells w e s).size=grownCap w s.size 0 e:=by
  unfold Lib.bytesCells;simp only [Array.size_append,Array.size_map,Array.size_replicate];have:s.data.size=s.size:=rfl;omega
 have hown:pv (Lib.bytesWorld w e s) 0 e (aO.int .u8).size (.slice (some ⟨w.heap.size,0,none⟩) s.size (grownCap w s.size 0 e)) (Lib.strCells s):=by
  refine .inr ⟨w.heap.size,0,s.size,_,Lib.bytesCells w e s,rfl,by rw [Lib.strCells_length]; exact (Nat.mul_one _).symm,bY _,⟨_,Lib.bytesWorld_at_new w e s,.inr (cm _)⟩,hge,hcm,by rw [hsz]; show 0+_*1<=_; omega,fun j u hu=>?_⟩;have hj:=(cu.1 hu).1;rw [Lib.strCells_length] at hj;unfold Lib.bytesCells;rw [pa,Ou (by simpa using hj)];unfold Lib.strCells at hu;rw [sf] at hu;simpa using hu
 have h2:=I.fact (ap (aO.int .u8) (Lib.strCells s) (cy s)) (by rw [Dt]; exact Di _ _ _);exact BK hrun (k _ _ _ _ O ((h2.add O (.own _ e (aO.int .u8).size (Lib.strCells s)) ⟨hown,by decide⟩ (fun j hj=>by simp only [cS.dom,Value.ownBlock,cp] at hj; omega)).put hn _))
theorem CL:∀ (ns:List Int) (r:ByteArray),ns.foldl (fun r n=>r.push (UInt8.ofNat n.toNat)) r=⟨r.data++(ns.map fun n=>UInt8.ofNat n.toNat).toArray⟩
 | [],r=>by simp
 | n::ns,r=>by
  rw [Hz,CL ns];apply ByteArray.ext;simp [ByteArray.push]
theorem Nl (w:World) (A:Option Addr) (m c:Nat) (xs:List Int) (hm:m=xs.length) (hat:At w A (xs.map (Value.int .u8))):(Conv.bytesToString (.slice A m c)).run P w = .ok (.string (aV xs)) w:=by
 rcases hat with h | ⟨b,off,rfl,h⟩
 ·have:xs=[]:=by simpa using h
  subst this;have hm:m=0:=hm;subst hm;cases A <;> simp [Conv.bytesToString,loadCells,loadCellsFrom,aV,Sem.run_pure] <;> rfl
 ·have hl:=run_loadCells_list (P:=P) w ⟨b,off,none⟩ (xs.map (Value.int .u8)) (fun j u hu=>by rw [Addr.add_lit]; exact h j u hu);rw [oz,<- hm] at hl;rw [run_bytesToString w ⟨b,off,none⟩ m c xs hl,CL];simp [aV]
theorem vP {s e e':TypeId} {v:Value} {cl:bK} {xs:List Int} (I:St W M T n G D F a w) (hx:ev G x=some v) (hs:P.underlying s=some (.slice e)) (he:P.underlying e=some (.int .u8)) (ht:P.underlying t=some .string) (i:Nat) (hi:D[i]? = some (.own v e' (aO.int .u8).size cl)) (j:Nat) (hj:F[j]? = some (ap (aO.int .u8) cl xs)) (hE:∀ k,v.ownBlock=some k->¬ E k):Ye P ⟨d,.convert s t x,ty,pos,af,g⟩ a E w (.string (aV xs)):=fun w' O=>by
 obtain⟨hown,hsz⟩:=I.own _ (aD hi);have hrow:aY (aO.int .u8) (dT T D) w cl xs:=I.get j hj;have hcl:=Eb hrow;have h1:∃ A m c,v = .slice A m c/\m=xs.length/\At w' A (xs.map (Value.int .u8)):=by
  rcases hown with⟨rfl,h0⟩|⟨g,off,m,cap,cs,rfl,a1,hb,hg,hnc,hc,hsz2,hcs⟩
  ·have hz:xs=[]:=by rw [h0] at hcl; simpa using hcl.symm
   exact⟨none,0,0,rfl,by rw [hz]; rfl,.inl (by rw [hz]; rfl)⟩
  ·have hg':=hg.eqb (O.block g hg.lt (hE g rfl));refine⟨_,_,_,rfl,?_,.inr ⟨g,off,rfl,fun j u hu=>?_⟩⟩
   ·have:(aO.int .u8).size=1:=rfl;have:=congrArg List.length hcl;simp at this; simp only [aO.int] at a1; omega
   ·rw [hg'.cell];exact hcs j u (by rw [hcl]; exact hu)
 obtain⟨A,m,c,rfl,hm,hat⟩:=h1;have:=Nl (P:=P) w' A m c xs hm hat;simp [execOp,I.ev hx,convert,run_underlying hs,run_underlying he,run_underlying ht,this]
end
end
section
open Go.Lib
def Fq (c:UInt8):Bool:=decide (48<=c.toNat)&&decide (c.toNat<=57)
def cT:List UInt8->Nat->Int
 | [],n=>n
 | c::r,n=>if Fq c then cT r (10*n+(c.toNat-48)) else -1
def ta (l:List UInt8):Int:=if l=[]∨9<l.length∨(l.getD 0 0=48/\l≠[48]) then -1 else cT l 0
theorem yC:∀ (l:List UInt8) (n:Nat),cT l n = -1∨(n:Int)<=cT l n
 | [],n=>.inr (by simp [cT])
 | c::r,n=>by
  unfold cT;split
  ·rcases yC r (10*n+(c.toNat-48)) with h | h
   ·exact .inl h
   ·exact .inr (by omega)
  ·exact .inl rfl
theorem Cx:∀ (l:List UInt8) (n:Nat),cT l n<(n+1)*10 ^ l.length
 | [],n=>by simp [cT]; omega
 | c::r,n=>by
  unfold cT;split
  ·rename_i h;have hc:c.toNat<=57:=by simp [Fq] at h; omega
   have:=Cx r (10*n+(c.toNat-48));have h2:((10*n+(c.toNat-48):Nat):Int)+1<=(n+1)*10:=by omega
   have h3:(((10*n+(c.toNat-48):Nat):Int)+1)*10 ^ r.length<=((n+1)*10)*10 ^ r.length:=Int.mul_le_mul_of_nonneg_right h2 (by exact Int.le_of_lt (Int.pow_pos (by omega)));have h4:(((n:Int)+1)*10)*10 ^ r.length=((n:Int)+1)*10 ^ (c::r).length:=by rw [ip,Int.pow_succ,Int.mul_assoc,Int.mul_comm 10]
   omega
  ·have:(0:Int)<((n:Int)+1)*10 ^ (c::r).length:=Int.mul_pos (by omega) (Int.pow_pos (by omega));omega
theorem s9:∀ (l:List UInt8) (n m:Nat) (c:UInt8),cT l n=m->cT (l++[c]) n=if Fq c then ((10*m+(c.toNat-48):Nat):Int) else -1
 | [],n,m,c,h=>by
  simp only [cT] at h;have:n=m:=by omega
  subst this;simp [cT]
 | d::r,n,m,c,h=>by
  unfold cT at h;split at h
  ·rename_i hd;show cT (d::(r++[c])) n=_;rw [cT,if_pos hd];exact s9 r _ m c h
  ·omega
theorem AJ {k:Nat} (h:k<10):(UInt8.ofNat (48+k)).toNat=48+k:=by
 have:(UInt8.ofNat (48+k)).toNat=(48+k) % 256:=rfl;omega
theorem Fr {k:Nat} (h:k<10):Fq (UInt8.ofNat (48+k))=true:=by
 unfold Fq; rw [AJ h]; simp; omega
theorem Bq (n:Nat):cT (decDigits n) 0=n:=by
 induction n using Nat.strongRecOn with
 | _ n ih =>
  rw [decDigits];split
  ·rename_i h;simp only [cT,Fr h,if_true,AJ h];omega
  ·rename_i h;rw [s9 _ 0 (n / 10) _ (ih (n / 10) (by omega)),Fr (by omega),if_pos rfl,AJ (by omega)];omega
theorem Fp (n:Nat):decDigits n≠[]:=by
 rw [decDigits]; split <;> simp
theorem Ld (n:Nat):(decDigits n).getD 0 0=48->decDigits n=[48]:=by
 induction n using Nat.strongRecOn with
 | _ n ih =>
  rw [decDigits];split
  ·rename_i h;intro h2;simp only [List.getD_cons_zero] at h2;rw [h2]
  ·rename_i h;intro h2;have hne:=Fp (n / 10);have h3:(decDigits (n / 10)).getD 0 0=48:=by
    cases hd:decDigits (n / 10) with
    | nil=>exact absurd hd hne
    | cons a r=>rw [hd] at h2; simpa using h2
   have h4:=ih (n / 10) (by omega) h3;have h5:=Bq (n / 10);rw [h4] at h5;have:cT [48] 0=0:=rfl;omega
theorem zB (n:Nat):∀ k,n<10 ^ (k+1)->(decDigits n).length<=k+1:=by
 induction n using Nat.strongRecOn with
 | _ n ih =>
  intro k O;rw [decDigits];split
  ·simp
  ·rename_i h;cases k with
   | zero=>simp at O; omega
   | succ k =>
    have:=ih (n / 10) (by omega) k (by rw [Nat.div_lt_iff_lt_mul (by omega)]; rwa [Be] at O);simp; omega
theorem Cy {n:Nat} (h:n<1000000000):ta (decDigits n)=n:=by
 unfold ta;rw [if_neg,Bq];rintro (h1 | h1 | ⟨h1,h2⟩)
 ·exact Fp n h1
 ·have:=zB n 8 (by simpa using h); omega
 ·exact h2 (Ld n h1)
theorem Iq {α:Type} (l:List α):l=[]∨∃ r c,l=r++[c]:=by
 rcases List.eq_nil_or_concat l with h | ⟨r,c,h⟩
 ·exact .inl h
 ·exact .inr ⟨r,c,by simpa using h⟩
theorem vW:∀ (l:List UInt8) (n:Nat) (c:UInt8),cT l n = -1->cT (l++[c]) n = -1
 | [],n,c,h=>by simp [cT] at h
 | d::r,n,c,h=>by
  show cT (d::(r++[c])) n=_;unfold cT at h ⊢;split
  ·rename_i hd;rw [if_pos hd] at h;exact vW r _ c h
  ·rfl
theorem GA:∀ (k:Nat) (l:List UInt8) (n:Nat),l.length<=k->l≠[]->(l.getD 0 0=48->l=[48])->cT l 0=n->decDigits n=l:=by
 intro k
 induction k with
 | zero=>intro l n O h1 _ _; exact absurd (DH (by omega)) h1
 | succ k ih =>
  intro l n O h1 h2 h3;rcases Iq l with rfl | ⟨r,c,rfl⟩
  ·exact absurd rfl h1
  ·cases hr:r with
   | nil =>
    subst hr;simp only [qU,cT] at h3 ⊢;split at h3
    ·rename_i hd;have hc:48<=c.toNat/\c.toNat<=57:=by simpa [Fq] using hd
     have hn:n=c.toNat-48:=by omega
     rw [decDigits,dif_pos (by omega),hn,show 48+(c.toNat-48)=c.toNat by omega,UInt8.ofNat_toNat]
    ·omega
   | cons a r' =>
    rw [<- hr];rcases yC r 0 with h | h
    ·rw [vW r 0 c h] at h3; omega
    ·obtain⟨m,hm⟩:∃ m:Nat,cT r 0=m:=⟨(cT r 0).toNat,by omega⟩;rw [s9 r 0 m c hm] at h3;split at h3
     ·rename_i hd;have hc:48<=c.toNat/\c.toNat<=57:=by simpa [Fq] using hd
      have ha:r.getD 0 0≠48:=by
       intro e;have:=h2 (by rw [hr] at e ⊢; simpa using e);rw [hr] at this; simp at this
      have hrec:=ih r m (by simp at O; omega) (by rw [hr]; simp) (fun e=>absurd e ha) hm;have hm0:1<=m:=by
       rcases y6 m with e | e
       ·subst e;rw [decDigits,dif_pos (by omega)] at hrec;rw [<- hrec] at ha;exact absurd rfl ha
       ·exact e
      rw [decDigits,dif_neg (by omega),show n / 10=m by omega,hrec,show n % 10=c.toNat-48 by omega,show 48+(c.toNat-48)=c.toNat by omega,UInt8.ofNat_toNat]
     ·omega
theorem PV {l:List UInt8} {n:Nat} (h:ta l=n):decDigits n=l/\n<1000000000:=by
 unfold ta at h;split at h
 ·omega
 ·rename_i hc;have h1:l≠[]:=fun e=>hc (.inl e);have h2:l.length<=9:=by
   rcases gD 9 l.length with e | e
   ·exact absurd (.inr (.inl e)) hc
   ·exact e
  have h3:l.getD 0 0=48->l=[48]:=fun e=>DG fun e2=>hc (.inr (.inr ⟨e,e2⟩));refine⟨GA 9 l n h2 h1 h3 h,?_⟩;have:=Cx l 0;have hp:(10:Nat) ^ l.length<=10 ^ 9:=ux (by omega) h2;have hq:((10:Int) ^ l.length)=((10 ^ l.length:Nat):Int):=by simp
  rw [h,hq] at this;simp only [Int.natCast_zero,Int.zero_add,Int.one_mul] at this;have:(10:Nat) ^ 9=1000000000:=rfl;omega
theorem I4 (l:List UInt8) : -1<=ta l:=by
 unfold ta;split
 ·omega
 ·rcases yC l 0 with h | h <;> omega
theorem EK:∀ (l:List UInt8) (a m:Nat) (c:UInt8),parseUint10 a l = .ok m->m<1000000000000->Fq c=true->parseUint10 a (l++[c]) = .ok (10*m+(c.toNat-48))
 | [],a,m,c,h,hm,hc=>by
  simp only [parseUint10] at h;injection h with h;subst h;have hc':48<=c.toNat/\c.toNat<=57:=by simpa [Fq] using hc
  simp only [qU,parseUint10];rw [if_pos hc',if_neg (by omega),if_neg (by omega)];congr 1; omega
 | d::r,a,m,c,h,hm,hc=>by
  show parseUint10 a (d::(r++[c]))=_;unfold parseUint10 at h ⊢;split at h
  ·rename_i hd;rw [if_pos hd];split at h
   ·cases h
   ·rename_i h2;rw [if_neg h2];split at h
    ·cases h
    ·rename_i h3;rw [if_neg h3];exact EK r _ m c h hm hc
  ·cases h
theorem Kn (n:Nat) (h:n<1000000000000):parseUint10 0 (decDigits n) = .ok n:=by
 induction n using Nat.strongRecOn with
 | _ n ih =>
  rw [decDigits];split
  ·rename_i h;simp only [parseUint10,AJ h];rw [if_pos (by omega),if_neg (by omega),if_neg (by omega)];congr 1; omega
  ·rename_i h;rw [EK _ 0 (n / 10) _ (ih (n / 10) (by omega) (by omega)) (by omega) (Fr (by omega)),AJ (by omega)];congr 1; omega
theorem ND (n:Nat):48<=((decDigits n).getD 0 0).toNat:=by
 induction n using Nat.strongRecOn with
 | _ n ih =>
  rw [decDigits];split
  ·rename_i h;simp only [List.getD_cons_zero];rw [AJ h]; omega
  ·rename_i h;have hne:=Fp (n / 10);have:=ih (n / 10) (by omega);cases hd:decDigits (n / 10) with
   | nil=>exact absurd hd hne
   | cons a r=>rw [hd] at this; simpa using this
theorem Cf {n:Nat} (h:n<1000000000):atoiAll (decDigits n) = .ok (n:Int):=by
 have h1:=Kn n (by omega);have h2:=ND n;have h3:=Fp n;cases hd:decDigits n with
 | nil=>exact absurd hd h3
 | cons c r =>
  rw [hd] at h1 h2;simp only [List.getD_cons_zero] at h2;have h45:¬ (c.toNat=43∨c.toNat=45):=by omega
  have h46:¬ c.toNat=45:=by omega
  simp only [atoiAll,if_neg h45,parseMag,if_neg (List.cons_ne_nil c r),h1];rw [if_neg (by omega),if_neg (by omega),if_neg h46]
def CZ (M:Nat) (l:List UInt8):Int:=if ta l<=M then ta l else -1
theorem Kk (M:Nat) (B:M<1000000000) (l:List UInt8):CZ M l=match atoiAll l with
  | .ok v=>if v<0∨(M:Int)<v then -1 else if itoa v=l then v else -1
  | _=>-1:=by
 have key:∀ n:Nat,ta l=n->n<=M->CZ M l=n/\atoiAll l = .ok (n:Int)/\itoa (n:Int)=l:=fun n h1 h2=>by
  obtain⟨h3,h4⟩:=PV h1;refine⟨by unfold CZ; rw [h1,if_pos (by omega)],by rw [<- h3]; exact Cf h4,by unfold itoa; rw [if_neg (by omega)]; simpa using h3⟩
 have hge:=I4 l;by_cases hc:0<=ta l/\ta l<=M
 ·obtain⟨n,hn⟩:∃ n:Nat,ta l=n:=⟨(ta l).toNat,by omega⟩;obtain⟨k1,k2,k3⟩:=key n hn (by omega);rw [k1,k2];simp only;rw [if_neg (by omega),if_pos k3]
 ·have hl:CZ M l = -1:=by
   unfold CZ;split
   ·omega
   ·rfl
  rw [hl];cases ha:atoiAll l
  ·rename_i v;simp only;split
   ·rfl
   ·rename_i hv;split
    ·rename_i hi;exfalso;have hv0:0<=v/\v<=M:=by omega
     obtain⟨n,rfl⟩:∃ n:Nat,v=n:=⟨v.toNat,by omega⟩;unfold itoa at hi;rw [if_neg (by omega)] at hi;simp only [sC] at hi;have:=Cy (n:=n) (by omega);rw [hi] at this;omega
    ·rfl
  ·rfl
  ·rfl
end
end Go.Proofs.YtcpplgcgcbihoaaGreatDoor
section
namespace Go.Proofs
open Go.Shelf
def Tryz.lays106_ren:Go.Shelf.Ren:=⟨fun | 106=>152 | 213=>193 | 265=>227 | n=>n,fun | 9=>9 | 3=>3 | n=>n,fun | n=>n⟩
theorem Tryz.lays106:Go.Proofs.Lays.n106 Tryz.prog Tryz.lays106_ren:={
 mixed:=by kernel_rfl
 f106:=Tryz.func152.trans (congrArg some (by kernel_rfl))
 f213:=Tryz.func193.trans (congrArg some (by kernel_rfl))
 f265:=Tryz.func227.trans (congrArg some (by kernel_rfl))
 t3:=Tryz.underlying3
 a3:=Tryz.isAgg3
 z3:=Tryz.sizeOf3
 v3:=Tryz.zeroValue3
 t9:=Tryz.underlying9
 a9:=Tryz.isAgg9
 z9:=Tryz.sizeOf9
 v9:=Tryz.zeroValue9 }
open Go.RowKit in
theorem Tryz.strings_Compare (a b:ByteArray) (w:World) :
  Calls Tryz.prog 152 #[.string a,.string b] w fun e w'=>e = .returned (.int .i64 (Lib.compareBytes a.data.toList b.data.toList))/\w'=w:=Any.strings_Compare Tryz.lays106 a b w
def Tryz.laysM171_ren:Go.Shelf.Ren:=⟨fun | 171=>147 | 243=>190 | 246=>225 | 283=>251 | 284=>252 | 285=>253 | 286=>254 | 129=>240 | 317=>297 | 318=>298 | 319=>299 | 320=>300 | 337=>377 | 338=>378 | n=>n,fun | 3=>3 | 9=>9 | 2=>2 | 4=>4 | 171=>286 | 0=>0 | 53=>103 | 37=>61 | 5=>5 | 173=>288 | 212=>343 | 51=>276 | 20=>20 | 213=>344 | 46=>187 | 232=>578 | 233=>579 | n=>n,fun | 17=>1 | 18=>4 | 19=>5 | n=>n⟩
theorem Tryz.laysM171:Go.Proofs.LaysM.n171 Tryz.prog Tryz.laysM171_ren:={
 mixed:=by kernel_rfl
 f129:=Tryz.func240.trans (congrArg some (by kernel_rfl))
 f171:=Tryz.func147.trans (congrArg some (by kernel_rfl))
 f243:=Tryz.func190.trans (congrArg some (by kernel_rfl))
 f246:=Tryz.func225.trans (congrArg some (by kernel_rfl))
 f283:=Tryz.func251.trans (congrArg some (by kernel_rfl))
 f284:=Tryz.func252.trans (congrArg some (by kernel_rfl))
 f285:=Tryz.func253.trans (congrArg some (by kernel_rfl))
 f286:=Tryz.func254.trans (congrArg some (by kernel_rfl))
 f317:=Tryz.func297.trans (congrArg some (by kernel_rfl))
 f318:=Tryz.func298.trans (congrArg some (by kernel_rfl))
 f319:=Tryz.func299.trans (congrArg some (by kernel_rfl))
 f320:=Tryz.func300.trans (congrArg some (by kernel_rfl))
 f337:=Tryz.func377.trans (congrArg some (by kernel_rfl))
 f338:=Tryz.func378.trans (congrArg some (by kernel_rfl))
 t0:=Tryz.underlying0
 a0:=Tryz.isAgg0
 z0:=Tryz.sizeOf0
 v0:=Tryz.zeroValue0
 t2:=Tryz.underlying2
 a2:=Tryz.isAgg2
 z2:=Tryz.sizeOf2
 v2:=Tryz.zeroValue2
 t3:=Tryz.underlying3
 a3:=Tryz.isAgg3
 z3:=Tryz.sizeOf3
 v3:=Tryz.zeroValue3
 t4:=Tryz.underlying4
 a4:=Tryz.isAgg4
 z4:=Tryz.sizeOf4
 v4:=Tryz.zeroValue4
 t5:=Tryz.underlying5
 a5:=Tryz.isAgg5
 z5:=Tryz.sizeOf5
 v5:=Tryz.zeroValue5
 t9:=Tryz.underlying9
 a9:=Tryz.isAgg9
 z9:=Tryz.sizeOf9
 v9:=Tryz.zeroValue9
 t20:=Tryz.underlying20
 a20:=Tryz.isAgg20
 z20:=Tryz.sizeOf20
 v20:=Tryz.zeroValue20
 t37:=Tryz.underlying61
 a37:=Tryz.isAgg61
 z37:=Tryz.sizeOf61
 v37:=Tryz.zeroValue61
 t46:=Tryz.underlying187
 a46:=Tryz.isAgg187
 z46:=Tryz.sizeOf187
 v46:=Tryz.zeroValue187
 t51:=Tryz.underlying276
 a51:=Tryz.isAgg276
 z51:=Tryz.sizeOf276
 v51:=Tryz.zeroValue276
 t53:=Tryz.underlying103
 a53:=Tryz.isAgg103
 z53:=Tryz.sizeOf103
 v53:=Tryz.zeroValue103
 t171:=Tryz.underlying286
 a171:=Tryz.isAgg286
 z171:=Tryz.sizeOf286
 v171:=Tryz.zeroValue286
 t173:=Tryz.underlying288
 a173:=Tryz.isAgg288
 z173:=Tryz.sizeOf288
 v173:=Tryz.zeroValue288
 t212:=Tryz.underlying343
 a212:=Tryz.isAgg343
 z212:=Tryz.sizeOf343
 v212:=Tryz.zeroValue343
 t213:=Tryz.underlying344
 a213:=Tryz.isAgg344
 z213:=Tryz.sizeOf344
 t232:=Tryz.underlying578
 a232:=Tryz.isAgg578
 z232:=Tryz.sizeOf578
 v232:=Tryz.zeroValue578
 t233:=Tryz.underlying579
 a233:=Tryz.isAgg579
 z233:=Tryz.sizeOf579
 v233:=Tryz.zeroValue579
 g17:=by kernel_rfl
 g18:=by kernel_rfl
 g19:=by kernel_rfl
 i0:=by kernel_rfl
 i2:=by kernel_rfl
 i3:=by kernel_rfl
 i4:=by kernel_rfl
 i5:=by kernel_rfl
 i9:=by kernel_rfl
 i20:=by kernel_rfl
 i37:=by kernel_rfl
 i46:=by kernel_rfl
 i51:=by kernel_rfl
 i53:=by kernel_rfl
 i171:=by kernel_rfl
 i173:=by kernel_rfl
 i212:=by kernel_rfl
 i232:=by kernel_rfl
 i233:=by kernel_rfl
 m17:=by kernel_rfl
 m18:=by kernel_rfl
 m19:=by kernel_rfl }
open Go.RowKit Go.Sort Go.Lib in
theorem Tryz.strconv_Itoa (n : Int) (h0 : -9223372036854775808 <= n) (h1 : n <= 9223372036854775807) (w : World) (htab : Lib.TabIs Tryz.prog w "internal/strconv.uint64pow10" .u64 Lib.pow10Tab) :
  Calls Tryz.prog 147 #[.int .i64 n] w fun e w'=>e = .returned (.string ⟨(Lib.itoa n).toArray⟩)/\∃ k os,w'=grow (w.drewN k) os:=Any.strconv_Itoa Tryz.laysM171 n h0 h1 w htab
def Tryz.laysC172_ren:Go.Shelf.Ren:=⟨fun | 172=>198 | 244=>229 | 245=>230 | 247=>257 | 279=>258 | 280=>259 | 281=>260 | 282=>261 | 287=>301 | 316=>302 | 171=>147 | 205=>303 | 321=>379 | 322=>380 | 243=>190 | 246=>225 | 283=>251 | 284=>252 | 285=>253 | 286=>254 | 129=>240 | 317=>297 | 318=>298 | 319=>299 | 320=>300 | 337=>377 | 338=>378 | n=>n,fun | 9=>9 | 3=>3 | 75=>241 | 76=>242 | 4=>4 | 5=>5 | 167=>292 | 37=>61 | 0=>0 | 85=>293 | 2=>2 | 168=>295 | 53=>103 | 175=>345 | 46=>187 | 210=>348 | 127=>478 | 145=>481 | 143=>479 | 21=>21 | 171=>286 | 173=>288 | 212=>343 | 51=>276 | 20=>20 | 213=>344 | 232=>578 | 233=>579 | 80=>99 | n=>n,fun | 15=>2 | 16=>3 | 17=>1 | 18=>4 | 19=>5 | n=>n⟩
theorem Tryz.laysC172:Go.Proofs.LaysC.n172 Tryz.prog Tryz.laysC172_ren:={
 mixed:=by kernel_rfl
 f129:=Tryz.func240.trans (congrArg some (by kernel_rfl))
 f171:=Tryz.func147.trans (congrArg some (by kernel_rfl))
 f172:=Tryz.func198.trans (congrArg some (by kernel_rfl))
 f205:=Tryz.func303.trans (congrArg some (by kernel_rfl))
 f243:=Tryz.func190.trans (congrArg some (by kernel_rfl))
 f244:=Tryz.func229.trans (congrArg some (by kernel_rfl))
 f245:=Tryz.func230.trans (congrArg some (by kernel_rfl))
 f246:=Tryz.func225.trans (congrArg some (by kernel_rfl))
 f247:=Tryz.func257.trans (congrArg some (by kernel_rfl))
 f279:=Tryz.func258.trans (congrArg some (by kernel_rfl))
 f280:=Tryz.func259.trans (congrArg some (by kernel_rfl))
 f281:=Tryz.func260.trans (congrArg some (by kernel_rfl))
 f282:=Tryz.func261.trans (congrArg some (by kernel_rfl))
 f283:=Tryz.func251.trans (congrArg some (by kernel_rfl))
 f284:=Tryz.func252.trans (congrArg some (by kernel_rfl))
 f285:=Tryz.func253.trans (congrArg some (by kernel_rfl))
 f286:=Tryz.func254.trans (congrArg some (by kernel_rfl))
 f287:=Tryz.func301.trans (congrArg some (by kernel_rfl))
 f316:=Tryz.func302.trans (congrArg some (by kernel_rfl))
 f317:=Tryz.func297.trans (congrArg some (by kernel_rfl))
 f318:=Tryz.func298.trans (congrArg some (by kernel_rfl))
 f319:=Tryz.func299.trans (congrArg some (by kernel_rfl))
 f320:=Tryz.func300.trans (congrArg some (by kernel_rfl))
 f321:=Tryz.func379.trans (congrArg some (by kernel_rfl))
 f322:=Tryz.func380.trans (congrArg some (by kernel_rfl))
 f337:=Tryz.func377.trans (congrArg some (by kernel_rfl))
 f338:=Tryz.func378.trans (congrArg some (by kernel_rfl))
 t0:=Tryz.underlying0
 a0:=Tryz.isAgg0
 z0:=Tryz.sizeOf0
 v0:=Tryz.zeroValue0
 t2:=Tryz.underlying2
 a2:=Tryz.isAgg2
 z2:=Tryz.sizeOf2
 v2:=Tryz.zeroValue2
 t3:=Tryz.underlying3
 a3:=Tryz.isAgg3
 z3:=Tryz.sizeOf3
 v3:=Tryz.zeroValue3
 t4:=Tryz.underlying4
 a4:=Tryz.isAgg4
 z4:=Tryz.sizeOf4
 v4:=Tryz.zeroValue4
 t5:=Tryz.underlying5
 a5:=Tryz.isAgg5
 z5:=Tryz.sizeOf5
 v5:=Tryz.zeroValue5
 t9:=Tryz.underlying9
 a9:=Tryz.isAgg9
 z9:=Tryz.sizeOf9
 v9:=Tryz.zeroValue9
 t20:=Tryz.underlying20
 a20:=Tryz.isAgg20
 z20:=Tryz.sizeOf20
 v20:=Tryz.zeroValue20
 t21:=Tryz.underlying21
 a21:=Tryz.isAgg21
 z21:=Tryz.sizeOf21
 v21:=Tryz.zeroValue21
 t37:=Tryz.underlying61
 a37:=Tryz.isAgg61
 z37:=Tryz.sizeOf61
 v37:=Tryz.zeroValue61
 t46:=Tryz.underlying187
 a46:=Tryz.isAgg187
 z46:=Tryz.sizeOf187
 v46:=Tryz.zeroValue187
 t51:=Tryz.underlying276
 a51:=Tryz.isAgg276
 z51:=Tryz.sizeOf276
 v51:=Tryz.zeroValue276
 t53:=Tryz.underlying103
 a53:=Tryz.isAgg103
 z53:=Tryz.sizeOf103
 v53:=Tryz.zeroValue103
 t75:=Tryz.underlying241
 a75:=Tryz.isAgg241
 z75:=Tryz.sizeOf241
 v75:=Tryz.zeroValue241
 t76:=Tryz.underlying242
 a76:=Tryz.isAgg242
 z76:=Tryz.sizeOf242
 v76:=Tryz.zeroValue242
 t85:=Tryz.underlying293
 a85:=Tryz.isAgg293
 z85:=Tryz.sizeOf293
 v85:=Tryz.zeroValue293
 t127:=Tryz.underlying478
 a127:=Tryz.isAgg478
 z127:=Tryz.sizeOf478
 v127:=Tryz.zeroValue478
 t143:=Tryz.underlying479
 a143:=Tryz.isAgg479
 z143:=Tryz.sizeOf479
 v143:=Tryz.zeroValue479
 t145:=Tryz.underlying481
 a145:=Tryz.isAgg481
 z145:=Tryz.sizeOf481
 v145:=Tryz.zeroValue481
 t167:=Tryz.underlying292
 a167:=Tryz.isAgg292
 z167:=Tryz.sizeOf292
 v167:=Tryz.zeroValue292
 t168:=Tryz.underlying295
 a168:=Tryz.isAgg295
 z168:=Tryz.sizeOf295
 v168:=Tryz.zeroValue295
 t171:=Tryz.underlying286
 a171:=Tryz.isAgg286
 z171:=Tryz.sizeOf286
 v171:=Tryz.zeroValue286
 t173:=Tryz.underlying288
 a173:=Tryz.isAgg288
 z173:=Tryz.sizeOf288
 v173:=Tryz.zeroValue288
 t175:=Tryz.underlying345
 a175:=Tryz.isAgg345
 z175:=Tryz.sizeOf345
 v175:=Tryz.zeroValue345
 t210:=Tryz.underlying348
 a210:=Tryz.isAgg348
 z210:=Tryz.sizeOf348
 v210:=Tryz.zeroValue348
 t212:=Tryz.underlying343
 a212:=Tryz.isAgg343
 z212:=Tryz.sizeOf343
 v212:=Tryz.zeroValue343
 t213:=Tryz.underlying344
 a213:=Tryz.isAgg344
 z213:=Tryz.sizeOf344
 t232:=Tryz.underlying578
 a232:=Tryz.isAgg578
 z232:=Tryz.sizeOf578
 v232:=Tryz.zeroValue578
 t233:=Tryz.underlying579
 a233:=Tryz.isAgg579
 z233:=Tryz.sizeOf579
 v233:=Tryz.zeroValue579
 g15:=by kernel_rfl
 g16:=by kernel_rfl
 g17:=by kernel_rfl
 g18:=by kernel_rfl
 g19:=by kernel_rfl
 t80:=Tryz.underlying99
 a80:=Tryz.isAgg99
 z80:=Tryz.sizeOf99
 v80:=Tryz.zeroValue99
 i0:=by kernel_rfl
 i2:=by kernel_rfl
 i3:=by kernel_rfl
 i4:=by kernel_rfl
 i5:=by kernel_rfl
 i9:=by kernel_rfl
 i20:=by kernel_rfl
 i21:=by kernel_rfl
 i37:=by kernel_rfl
 i46:=by kernel_rfl
 i51:=by kernel_rfl
 i53:=by kernel_rfl
 i75:=by kernel_rfl
 i76:=by kernel_rfl
 i80:=by kernel_rfl
 i85:=by kernel_rfl
 i127:=by kernel_rfl
 i143:=by kernel_rfl
 i145:=by kernel_rfl
 i167:=by kernel_rfl
 i168:=by kernel_rfl
 i171:=by kernel_rfl
 i173:=by kernel_rfl
 i175:=by kernel_rfl
 i210:=by kernel_rfl
 i212:=by kernel_rfl
 i232:=by kernel_rfl
 i233:=by kernel_rfl
 m15:=by kernel_rfl
 m16:=by kernel_rfl
 m17:=by kernel_rfl
 m18:=by kernel_rfl
 m19:=by kernel_rfl
 c0:=by kernel_rfl
 c2:=by kernel_rfl
 c3:=by kernel_rfl
 c4:=by kernel_rfl
 c5:=by kernel_rfl
 c9:=by kernel_rfl
 c20:=by kernel_rfl
 c21:=by kernel_rfl
 c37:=by kernel_rfl
 c46:=by kernel_rfl
 c51:=by kernel_rfl
 c53:=by kernel_rfl
 c75:=by kernel_rfl
 c76:=by kernel_rfl
 c80:=by kernel_rfl
 c85:=by kernel_rfl
 c127:=by kernel_rfl
 c143:=by kernel_rfl
 c145:=by kernel_rfl
 c167:=by kernel_rfl
 c168:=by kernel_rfl
 c171:=by kernel_rfl
 c173:=by kernel_rfl
 c175:=by kernel_rfl
 c210:=by kernel_rfl
 c212:=by kernel_rfl
 c213:=by kernel_rfl
 c232:=by kernel_rfl
 c233:=by kernel_rfl }
open Go.RowKit in
theorem Tryz.strconv_Atoi_ok (s:ByteArray) (hmax:s.size<=9223372036854775806) (v:Int) (h:Lib.atoiAll s.data.toList = .ok v) (w:World) :
  Calls Tryz.prog 198 #[.string s] w fun e w'=>e = .returned (.tuple #[.int .i64 v,.nilIface])/\(w'=w∨∃ t,w'=Lib.bytesWorld w 5 t):=Any.strconv_Atoi_ok Tryz.laysC172 s hmax v h w
open Go.RowKit in
theorem Tryz.strconv_Atoi_syntax (s:ByteArray) (hlim:s.size<=281474976710656) (h:(∀ z,Lib.atoiAll s.data.toList ≠ .ok z)/\Lib.atoiAll s.data.toList ≠ .range) (ev:Value) (w:World) (hv:w.cell? ⟨2,0,none⟩=some ev) (hev:ev = .nilIface∨∃ te pe,ev = .iface te pe) :
  Calls Tryz.prog 198 #[.string s] w fun e w'=>∃ N,e = .returned (.tuple #[.int .i64 (0),.iface 295 (.pointer (some ⟨N,0,none⟩))])/\w.heap.size<=N/\w'.heap[N]? = some (.cells #[.string ⟨#[65,116,111,105]⟩,.string s,ev] 348 (0,0))/\Below w.heap.size w w':=Any.strconv_Atoi_syntax Tryz.laysC172 s hlim (by cases hx:Lib.atoiAll s.data.toList <;> first | rfl | exact absurd hx (h.1 _) | exact absurd hx h.2) ev w hv hev
open Go.RowKit in
theorem Tryz.strconv_Atoi_range (s:ByteArray) (hlim:s.size<=281474976710656) (h:Lib.atoiAll s.data.toList = .range) (ev:Value) (w:World) (hv:w.cell? ⟨3,0,none⟩=some ev) (hev:ev = .nilIface∨∃ te pe,ev = .iface te pe) :
  Calls Tryz.prog 198 #[.string s] w fun e w'=>∃ N,e = .returned (.tuple #[.int .i64 (Lib.atoiSat s.data.toList),.iface 295 (.pointer (some ⟨N,0,none⟩))])/\w.heap.size<=N/\w'.heap[N]? = some (.cells #[.string ⟨#[65,116,111,105]⟩,.string s,ev] 348 (0,0))/\Below w.heap.size w w':=Any.strconv_Atoi_range Tryz.laysC172 s hlim h ev w hv hev
end Go.Proofs
end
namespace Go.Proofs.YtcpplgcgcbihoaaGreatDoor
section
open Go.RowKit
open Go.Lib hiding intOf
structure Lv (w:World):Prop where
 sy:∃ ev,w.cell? ⟨2,0,none⟩=some ev/\(ev = .nilIface∨∃ te pe,ev = .iface te pe)
 ra:∃ ev,w.cell? ⟨3,0,none⟩=some ev/\(ev = .nilIface∨∃ te pe,ev = .iface te pe)
 tab : TabIs aR w "internal/strconv.uint64pow10" .u64 pow10Tab
def Uf (k:Nat):Prop:=k=2∨k=3∨k=1
def fi (T:Nat->Prop) (w:World):Prop:=Lv w/\∀ k,Uf k->¬ T k/\k<w.heap.size
theorem Lv.keep {w w':World} (h:Lv w) (O:∀ k,Uf k->w'.heap[k]? = w.heap[k]?):Lv w':=by
 obtain⟨⟨e1, h1, h2⟩, ⟨e3, h3, h4⟩, h5⟩ := h;refine⟨⟨e1, (World.cell?_of_block (w := w) (O _ (.inl rfl))).trans h1, h2⟩, ⟨e3, (World.cell?_of_block (w := w) (O _ (.inr (.inl rfl)))).trans h3, h4⟩, ?_⟩;have hg : Tryz.prog.globalNamed "internal/strconv.uint64pow10" = some 1 := by kernel_rfl
 unfold TabIs World.var? at *;simp only [hg,ad] at h5 ⊢;rw [O _ (.inr (.inr rfl))]; exact h5
def ci:cL:=⟨fi,fun {T T' w w'} h k n=>⟨h.1.keep fun j hj=>k.block j (h.2 j hj).2 (h.2 j hj).1,fun j hj=>⟨fun ht=>by
 rcases n j ht with h1 | h1
 ·exact (h.2 j hj).1 h1
 ·have:=(h.2 j hj).2; omega,xg (h.2 j hj).2 k.size⟩⟩⟩
theorem fi.dn {T:Nat->Prop} {w:World} (h:fi T w):fi (dT T []) w:=ci.keep h (aj _ _) (UD w)
theorem Lv.here {w:World} (h:Lv w):fi No w:=by
 refine⟨h,fun k O=>⟨fun h=>h,?_⟩⟩;obtain⟨⟨e1,h1,h2⟩,⟨e3,h3,h4⟩,h5⟩:=h;rcases O with rfl | rfl | rfl
 ·exact World.block_lt_of_cell? _ _ h1
 ·exact World.block_lt_of_cell? _ _ h3
 ·have hg : Tryz.prog.globalNamed "internal/strconv.uint64pow10" = some 1 := by kernel_rfl
  unfold TabIs World.var? at h5;simp only [hg,ad] at h5;rcases gD 1 w.heap.size with h | h
  ·exact h
  ·rw [Ov h] at h5; cases h5
def PY (n:Int):Bool:=decide (-9223372036854775808<=n)&&decide (n<=9223372036854775807)
def db (n:Int):ByteArray:=⟨(itoa n).toArray⟩
theorem tg (n:Int):(db n).toList=itoa n:=by rw [db,ByteArray.toList_eq]
def zH (n:Int):Option ByteArray:=gd (PY n) (some (db n))
theorem NL (w:World) (k:Nat) (os:Array Obj):Kt No w (Go.Sort.grow (w.drewN k) os) :=
 ⟨rfl,rfl,rfl,by show w.heap.size<=(w.heap++os).size; simp,fun j hj _=>by show (w.heap++os)[j]? = _; rw [Ou hj]⟩
theorem BW (T:Nat->Prop) (L:World) (hT:∀ k,T k->k<L.heap.size) (hLv:fi T L) (n:Int) (y:ByteArray) (B:zH n=some y):bj aR No 147 [.int .i64 n] L fun v w'=>v = .string y:=by
 unfold zH at B;obtain⟨h1,h2⟩:=aP B;injection h2 with h2;subst h2;unfold PY at h1;simp only [qj,decide_eq_true_eq] at h1;refine Calls.mono (Tryz.strconv_Itoa n h1.1 h1.2 L hLv.1.tab) ?_;rintro e w' ⟨rfl,k,os,rfl⟩;exact⟨_,rfl,NL _ _ _,rfl⟩
def zr (s:ByteArray):Option (Int×Bool):=gd (Nat.ble s.size 140737488355328) (some (match atoiAll s.toList with
 | .ok v=>(v,false)
 | .range=>(atoiSat s.toList,true)
 | _=>(0,true)))
theorem Nk (T:Nat->Prop) (L:World) (hT:∀ k,T k->k<L.heap.size) (hLv:fi T L) (s:ByteArray) (y:Int×Bool) (B:zr s=some y):bj aR No 198 [.string s] L fun v w'=>∃ er,v = .tuple #[.int .i64 y.1,er]/\Ox er y.2:=by
 unfold zr at B;obtain⟨h1,h2⟩:=aP B;have hs:=cw h1;injection h2 with h2;subst h2;have hl:s.data.toList=s.toList:=(ByteArray.toList_eq s).symm;cases h:atoiAll s.toList
 ·rename_i v;refine Calls.mono (Tryz.strconv_Atoi_ok s (by omega) v (by rw [hl]; exact h) L) ?_;rintro e w' ⟨rfl,hw⟩;refine⟨_,rfl,?_,.nilIface,rfl,.inl ⟨rfl,rfl⟩⟩;rcases hw with rfl | ⟨t,rfl⟩
  ·exact aj _ _
  ·exact Kt.ofBelow (Go.Joins.below_bytesWorld _ _ _ _ (cm _))
 ·obtain⟨ev,h1,h2⟩:=hLv.1.sy;refine Calls.mono (Tryz.strconv_Atoi_syntax s (by omega) (by rw [hl,h]; exact⟨(fun _ h=>nomatch h),(fun h=>nomatch h)⟩) ev L h1 h2) ?_;rintro e w' ⟨N,rfl,_,_,hb⟩;exact⟨_,rfl,Kt.ofBelow hb,_,rfl,.inr ⟨rfl,_,_,rfl⟩⟩
 ·obtain⟨ev,h1,h2⟩:=hLv.1.ra;refine Calls.mono (Tryz.strconv_Atoi_range s (by omega) (by rw [hl]; exact h) ev L h1 h2) ?_;rintro e w' ⟨N,rfl,_,_,hb⟩;rw [hl];exact⟨_,rfl,Kt.ofBelow hb,_,rfl,.inr ⟨rfl,_,_,rfl⟩⟩
end
section
open Go.RowKit
variable {σ ρ:Type} {B:σ->Option (Fl σ ρ)}
theorem sX (I:Nat->σ->Prop) (post:ρ->Prop) (N:Nat)
  (hs:∀ k s,k<N->I k s->(∃ s',B s=some (.go s')/\I (k+1) s')∨∃ r,B s=some (.out r)/\post r) (he:∀ s,I N s->∃ r,B s=some (.out r)/\post r) {s:σ} (h0:I 0 s):∃ r,loop B s=some r/\post r:=by
 have key:∀ (m k:Nat) (s:σ),k+m=N->I k s->∃ r,loop B s=some r/\post r:=by
  intro m
  induction m with
  | zero =>
   intro k s O hI;obtain rfl:k=N:=by omega
   obtain⟨r,h1,h2⟩:=he s hI;exact⟨r,pD h1,h2⟩
  | succ m ih =>
   intro k s O hI;rcases hs k s (by omega) hI with⟨s',h1,h2⟩|⟨r,h1,h2⟩
   ·obtain⟨r,h3,h4⟩:=ih (k+1) s' (by omega) h2;exact⟨r,(zL h1).trans h3,h4⟩
   ·exact⟨r,pD h1,h2⟩
 exact key N 0 s (by omega) h0
theorem BZ (I:Nat->σ->Prop) (y:ρ) (N:Nat)
  (hs:∀ k s,k<N->I k s->(∃ s',B s=some (.go s')/\I (k+1) s')∨B s=some (.out y)) (he:∀ s,I N s->B s=some (.out y)) {s:σ} (h0:I 0 s):loop B s=some y:=by
 obtain⟨r,h1,rfl⟩:=sX I (fun r=>r=y) N (fun k s O hI=>(hs k s O hI).imp id fun h=>⟨y,h,rfl⟩) (fun s hI=>⟨y,he s hI,rfl⟩) h0;exact h1
theorem lU {z:Int} (h1 : -9223372036854775808<=z) (h2:z<=9223372036854775807):IntKind.i64.wrap z=z:=by rw [IntKind.wrap_i64]; omega
theorem bq {α:Type} {xs:List α} {k:Nat} (h:k<xs.length):bO xs (k:Int)=some xs[k]:=by
 unfold bO;simp [h]
theorem Ju {α:Type} {xs:List α} {l h:Nat} (h1:l<=h) (h2:h<=xs.length):uV xs (l:Int) (h:Int)=some ((xs.take h).drop l):=by
 unfold uV;rw [if_pos ⟨by omega,by omega,by omega⟩];simp
theorem dk {n:Nat} (h:n<=4294967296):ce n=true:=sw h
def Ok {α:Type} (m:Option α) (P:α->Prop):Prop:=∃ y,m=some y/\P y
section
variable {α β:Type} {m:Option α} {P Q:α->Prop} {R:β->Prop} {f:α->Option β} {b:Bool} {x y:Option α}
theorem ae {v:α} (h:P v):Ok (some v) P:=⟨v,rfl,h⟩
theorem ai (h:Ok m Q) (k:∀ v,Q v->Ok (f v) R):Ok (m.bind f) R:=by
 obtain⟨v,rfl,hv⟩:=h;exact k v hv
theorem aG {v:α} (h:m=some v) (k:Ok (f v) R):Ok (m.bind f) R:=by rw [h]; exact k
theorem ar (ht:b=true->Ok x P) (hf:b=false->Ok y P):Ok (cond b x y) P:=by
 cases b
 ·exact hf rfl
 ·exact ht rfl
theorem bC (hb:b=true) (h:Ok x P):Ok (gd b x) P:=by subst hb; exact h
theorem Ok.mono (h:Ok m Q) (k:∀ v,Q v->P v):Ok m P:=by obtain⟨v,e,hv⟩:=h; exact⟨v,e,k v hv⟩
theorem zk {xs:List α} {i:Int} (h0:0<=i) (h1:i<xs.length) (k:∀ v,xs[i.toNat]? = some v->v∈xs->Ok (f v) R):Ok ((bO xs i).bind f) R:=by
 have O:i.toNat<xs.length:=by omega
 have e:bO xs i=some xs[i.toNat]:=by
  have:=bq O;rwa [Int.toNat_of_nonneg h0] at this
 rw [e];exact k _ (cH O) (iK O)
theorem bV {s:σ} {g:ρ->Option β} (I:Nat->σ->Prop) (post:ρ->Prop) (N:Nat) (h0:I 0 s)
  (hs:∀ k s,k<=N->I k s->Ok (B s) fun r=>match r with
   | .go s'=>k<N/\I (k+1) s'
   | .out r=>post r)
  (k:∀ r,post r->Ok (g r) R):Ok ((Go.Proofs.YtcpplgcgcbihoaaGreatDoor.loop B s).bind g) R:=by
 obtain⟨r,h1,h2⟩:=sX (B:=B) I post N (fun k s O hI=>by
   obtain⟨y,e,hy⟩:=hs k s (by omega) hI;cases y with
   | go s'=>exact .inl ⟨s',e,hy.2⟩
   | out r=>exact .inr ⟨r,e,hy⟩) (fun s hI=>by
   obtain⟨y,e,hy⟩:=hs N s (cm _) hI;cases y with
   | go s'=>exact absurd hy.1 (by omega)
   | out r=>exact⟨r,e,hy⟩) h0
 rw [h1];exact k r h2
end
end
section
open Go.RowKit
open Go.Lib hiding intOf
section
variable {σ ρ α:Type} {B:σ->Option (Fl σ ρ)}
theorem mK (st:Nat->σ) (m:Nat) {s0:σ} (h0:s0=st 0) {r:ρ} (hgo:∀ k,k<m->B (st k)=some (.go (st (k+1)))) (hout:B (st m)=some (.out r)):loop B s0=some r:=by
 subst h0;exact BZ (fun k s=>s=st k) r m (fun k s O hs=>.inl ⟨st (k+1),by rw [hs]; exact hgo k O,rfl⟩) (fun s hs=>by rw [hs]; exact hout) rfl
theorem qA {xs:List α} (p:α->Bool) (st:Nat->σ) {s0:σ} (h0:s0=st 0) {y:Nat->α->ρ} {n:ρ} (hgo:∀ k x,xs[k]? = some x->p x=false->B (st k)=some (.go (st (k+1))))
  (hy:∀ k x,xs[k]? = some x->p x=true->B (st k)=some (.out (y k x))) (hn:B (st xs.length)=some (.out n)) :
  (∃ k x,xs[k]? = some x/\p x=true/\(∀ j z,j<k->xs[j]? = some z->p z=false)/\loop B s0=some (y k x))∨(∀ z∈xs,p z=false)/\loop B s0=some n:=by
 by_cases h:xs.findIdx p<xs.length
 ·have e:=cH h;have hp:=List.findIdx_getElem (w:=h);have hb:∀ j z,j<xs.findIdx p->xs[j]? = some z->p z=false:=fun j z hj hz=>by
   have:=List.not_of_lt_findIdx hj;obtain⟨h1,h2⟩:=cu.1 hz;rw [h2] at this; simpa using this
  refine .inl ⟨_,_,e,hp,hb,mK st _ h0 (fun k O=>?_) (hy _ _ e hp)⟩;have hk2:k<xs.length:=by omega
  exact hgo k _ (cH hk2) (hb k _ O (cH hk2))
 ·have hb:∀ j z,xs[j]? = some z->p z=false:=fun j z hz=>by
   obtain⟨h1,h2⟩:=cu.1 hz;have:=List.not_of_lt_findIdx (p:=p) (xs:=xs) (i:=j) (by omega);rw [h2] at this; simpa using this
  refine .inr ⟨fun z hz=>?_,mK st xs.length h0 (fun k O=>hgo k _ (cH O) (hb k _ (cH O))) hn⟩;obtain⟨i,hi⟩:=nP.1 hz;exact hb i z hi
theorem pC {xs:List α} (p:α->Bool) (st:Nat->σ) {s0:σ} (h0:s0=st 0) {y n:ρ} (hgo:∀ k x,xs[k]? = some x->p x=false->B (st k)=some (.go (st (k+1))))
  (hy:∀ k x,xs[k]? = some x->p x=true->B (st k)=some (.out y)) (hn:B (st xs.length)=some (.out n)):loop B s0=some (if xs.any p then y else n):=by
 rcases qA p st h0 (y:=fun _ _=>y) hgo hy hn with⟨k,x,h1,h2,_,h3⟩|⟨h1,h2⟩
 ·rw [if_pos (Aw.2 ⟨x,aD h1,h2⟩)]; exact h3
 ·rw [if_neg (fun h=>by obtain⟨x,hx,e⟩:=Aw.1 h; rw [h1 x hx] at e; cases e)]; exact h2
theorem ej {xs:List α} (st:Nat->σ) {s0:σ} (h0:s0=st 0) {r:ρ} (hgo:∀ k x,xs[k]? = some x->B (st k)=some (.go (st (k+1)))) (hout:B (st xs.length)=some (.out r)):loop B s0=some r :=
 mK st xs.length h0 (fun k O=>hgo k _ (cH O)) hout
theorem gG {β γ:Type} {m:Option β} {v:β} {f:β->Option γ} {y:Option γ} (h:m=some v) (k:f v=y):m.bind f=y:=by subst h; exact k
end
theorem bn {α:Type} (xs:List α) (k:Nat):bO xs (k:Int)=xs[k]?:=by simp [bO]
theorem dlt {k n:Nat} (h:k<n):decide ((k:Int)<(n:Int))=true:=decide_eq_true (by omega)
theorem NE {k n:Nat} (h:¬ k<n):decide ((k:Int)<(n:Int))=false:=decide_eq_false (by omega)
theorem gO {α:Type} {xs:List α} {k:Nat} {x:α} (h:xs[k]? = some x):decide ((k:Int)<(xs.length:Int))=true:=dlt (cu.1 h).1
theorem bN (n:Nat):decide ((n:Int)<(n:Int))=false:=NE (Nat.lt_irrefl _)
theorem cJ {k:Nat} (h:k<=9223372036854775806):IntKind.i64.wrap ((k:Int)+1)=((k+1:Nat):Int):=by rw [lU (by omega) (by omega)]; omega
theorem bh {α:Type} {xs:List α} {k:Nat} {x:α} (h:xs[k]? = some x):k<xs.length:=(cu.1 h).1
theorem bX {α:Type} {xs:List α} {k:Nat} {x:α} (h:xs[k]? = some x):xs.take (k+1)=xs.take k++[x]:=by
 rw [List.take_add_one,h]; rfl
theorem vX {α:Type} (p:α->Bool) (xs:List α) (k:Nat):((xs.take k).filter p).length<=xs.length :=
 cN (List.length_filter_le _ _) (by rw [eS]; omega)
def Rm (n:Nat):Prop:=n<=1000000000
theorem Ak {α:Type} {xs:List α} {a:Nat} (h:a<=xs.length):uV xs (a:Int) (xs.length:Int)=some (xs.drop a):=by
 rw [Ju h (cm _),fW]
theorem uW {α:Type} {xs:List α} {a:Nat} (h:a<=xs.length):uV xs 0 (a:Int)=some (xs.take a):=by
 have:=Ju (xs:=xs) (bY a) h;rwa [yh] at this
end
section
abbrev yz:BitVec 64:=0x42f0e1eba9ea3693#64
def gh (c:BitVec 64):BitVec 64:=(c <<< 1) ^^^ (if c.msb=true then yz else 0#64)
def uI (c:BitVec 64) (b:Bool):BitVec 64:=(c <<< 1) ^^^ (if (c.msb != b)=true then yz else 0#64)
theorem Bo (a b:BitVec 64) (n:Nat):(a ^^^ b) <<< n=(a <<< n) ^^^ (b <<< n):=by
 apply E0;intro i hi;simp only [Bz,Ht];cases decide (i<64) <;> cases decide (i<n) <;> simp
theorem Fn (y w:BitVec 64) (k:Nat):gh (y ^^^ (w <<< k))=uI y (w <<< k).msb ^^^ (w <<< (k+1)):=by
 unfold gh uI;rw [Bo,BitVec.msb_xor,JL];rw [Au,Au,BitVec.xor_comm ((w <<< k) <<< 1)]
theorem zA (a b:BitVec 64):gh (a ^^^ b)=gh a ^^^ gh b:=by
 unfold gh;rw [Bo,BitVec.msb_xor];apply E0;intro i hi;generalize a <<< 1=x;generalize b <<< 1=y;cases a.msb <;> cases b.msb <;> simp only [Ht,Bool.xor_false,Bool.false_xor,Bool.xor_self,Bool.xor_true,fv,if_true,if_false,E1,BitVec.getLsbD_zero]
 ·cases x.getLsbD i <;> cases y.getLsbD i <;> cases yz.getLsbD i <;> rfl
 ·cases x.getLsbD i <;> cases y.getLsbD i <;> cases yz.getLsbD i <;> rfl
 ·cases x.getLsbD i <;> cases y.getLsbD i <;> cases yz.getLsbD i <;> rfl
theorem DU {z:BitVec 64} (h:gh z=0#64):z=0#64:=by
 unfold gh at h;cases hm:z.msb with
 | true =>
  rw [hm,if_pos rfl] at h;have h0:=congrArg (fun v:BitVec 64=>v.getLsbD 0) h;simp [Ht,Bz] at h0;exact absurd h0 (by decide)
 | false =>
  rw [hm,if_neg (by simp),DF] at h;apply E0;intro i hi;by_cases h63:i=63
  ·subst h63;rw [M5] at hm;simpa using hm
  ·have h0:=congrArg (fun v:BitVec 64=>v.getLsbD (i+1)) h;simp [Bz] at h0;have:=h0 (by omega);simpa using this
theorem Fm {a b:BitVec 64} (h:gh a=gh b):a=b:=by
 have h1:gh (a ^^^ b)=0#64:=by rw [zA,h,Hu]
 have h2:=DU h1;exact BitVec.xor_eq_zero_iff.1 h2
def cE:Nat->BitVec 64->BitVec 64
 | 0,c=>c
 | n+1,c=>cE n (gh c)
theorem xV:∀ n a b,cE n (a ^^^ b)=cE n a ^^^ cE n b
 | 0,_,_=>rfl
 | n+1,a,b=>by show cE n (gh _)=_; rw [zA,xV n]; rfl
theorem ud:∀ n {a b},cE n a=cE n b->a=b
 | 0,_,_,h=>h
 | n+1,_,_,h=>Fm (ud n h)
theorem uc:∀ n m c,cE (n+m) c=cE m (cE n c)
 | 0,m,c=>by rw [pa]; rfl
 | n+1,m,c=>by rw [Nat.succ_add]; exact uc n m (gh c)
theorem xU:∀ n (z:BitVec 64),(∀ i,64-n<=i->i<64->z.getLsbD i=false)->n<=64->cE n z=z <<< n
 | 0,z,_,_=>by simp [cE]
 | n+1,z,h,hn=>by
  have hm:z.msb=false:=by rw [M5]; exact h 63 (by omega) (by omega)
  have e:gh z=z <<< 1:=by unfold gh; rw [hm,if_neg (by simp),DF]
  show cE n (gh z)=_;rw [e,xU n (z <<< 1) (fun i h1 h2=>by
   rw [Bz];by_cases hi:i<1
   ·simp [hi]
   ·rw [h (i-1) (by omega) (by omega)]; simp) (by omega)]
  rw [Nat.add_comm,JL]
abbrev ir (b:UInt8):BitVec 64:=BitVec.ofNat 64 b.toNat
def dY (c:BitVec 64):List UInt8->BitVec 64
 | []=>c
 | b::l=>dY (cE 8 (c ^^^ (ir b <<< 56))) l
def fk:List UInt8->BitVec 64
 | []=>0#64
 | b::l=>(ir b <<< 56) ^^^ (fk l >>> 8)
theorem Cw (b:UInt8) {i:Nat} (h:8<=i):(ir b).getLsbD i=false:=by
 rw [BitVec.getLsbD_ofNat];have:b.toNat.testBit i=false:=DE (xg b.toNat_lt (by have:=ux (n:=2) (by omega) h; simpa using this));simp [this]
theorem sH:∀ (l:List UInt8),l.length<=8->∀ i,i<64-8*l.length->(fk l).getLsbD i=false
 | [],_,i,_=>by simp [fk]
 | b::l,h,i,hi=>by
  rw [ip] at h hi;show ((ir b <<< 56) ^^^ (fk l >>> 8)).getLsbD i=false;rw [Ht,Bz,Hs];rw [sH l (by omega) (8+i) (by omega)];simp;intro _ _;omega
theorem vm:∀ (l:List UInt8) (c:BitVec 64),l.length<=8->dY c l=cE (8*l.length) (c ^^^ fk l)
 | [],c,_=>by simp [dY,fk,cE]
 | b::l,c,h=>by
  rw [ip] at h;show dY (cE 8 (c ^^^ (ir b <<< 56))) l=_;rw [vm l _ (by omega),ip,show 8*(l.length+1)=8+8*l.length by omega,uc];congr 1;show _=cE 8 (c ^^^ ((ir b <<< 56) ^^^ (fk l >>> 8)));rw [<- Au,xV 8 (c ^^^ _)];congr 1;have hz:∀ i,64-8<=i->i<64->(fk l >>> 8).getLsbD i=false:=fun i h1 h2=>by
   rw [Hs];exact BitVec.getLsbD_of_ge _ _ (by omega)
  rw [xU 8 _ hz (by omega)];apply E0;intro i hi;rw [Bz,Hs];by_cases h8:i<8
  ·rw [sH l (by omega) i (by omega)]; simp [h8]
  ·rw [show 8+(i-8)=i by omega]; simp [h8,hi]
theorem zz:∀ (a b:List UInt8),a.length=b.length->a.length<=8->fk a=fk b->a=b
 | [],[],_,_,_=>rfl
 | x::a,y::b,h,h8,e=>by
  rw [ip] at h8;rw [ip,ip] at h;have e:(ir x <<< 56) ^^^ (fk a >>> 8)=(ir y <<< 56) ^^^ (fk b >>> 8):=e;have hx:x=y:=by
   have:∀ i,i<8->(ir x).getLsbD i=(ir y).getLsbD i:=fun i hi=>by
    have h0:=congrArg (fun v:BitVec 64=>v.getLsbD (56+i)) e;simp only [Ht,Bz,Hs] at h0;rw [BitVec.getLsbD_of_ge (fk a) _ (by omega),BitVec.getLsbD_of_ge (fk b) _ (by omega)] at h0;rw [show 56+i-56=i by omega] at h0;simpa [show 56+i<64 by omega,show ¬ 56+i<56 by omega] using h0
   have hb:ir x=ir y:=E0 fun i hi=>by
    rcases gD i 8 with h | h
    ·exact this i h
    ·rw [Cw x h,Cw y h]
   have:=congrArg BitVec.toNat hb;simp only [JM] at this;have h1:=x.toNat_lt; have h2:=y.toNat_lt;rw [y9 (by omega),y9 (by omega)] at this;exact UInt8.toNat_inj.1 this
  subst hx;have e2:fk a >>> 8=fk b >>> 8:=by
   have:=congrArg (fun v=>(ir x <<< 56) ^^^ v) e;simpa [<- Au] using this
  have e3:fk a=fk b:=E0 fun i hi=>by
   rcases gD i 8 with h9 | h9
   ·rw [sH a (by omega) i (by omega),sH b (by omega) i (by omega)]
   ·have h0:=congrArg (fun v:BitVec 64=>v.getLsbD (i-8)) e2;simp only [Hs] at h0;rwa [show 8+(i-8)=i by omega] at h0
  rw [zz a b (by omega) (by omega) e3]
theorem Gy {a b:List UInt8} (h:a.length=b.length) (h8:a.length<=8) {c:BitVec 64} (e:dY c a=dY c b):a=b:=by
 rw [vm a c h8,vm b c (by omega),<- h] at e;have e2:=ud _ e;have e3:fk a=fk b:=by
  have:=congrArg (fun v=>c ^^^ v) e2;simpa [<- Au] using this
 exact zz a b h h8 e3
end
section
open Go.RowKit
open Go.Lib hiding intOf
theorem Bp (s:ByteArray):s.data.toList=s.toList:=(ByteArray.toList_eq s).symm
def sU (a b:ByteArray):Option Int:=some (Lib.compareBytes a.toList b.toList)
theorem rH (T:Nat->Prop) (L:World) (hT:∀ k,T k->k<L.heap.size) (hLv:fi T L) (a b:ByteArray) (y:Int) (B:sU a b=some y):bj aR No 152 [.string a,.string b] L fun v w'=>v = .int .i64 y:=by
 refine Calls.mono (Tryz.strings_Compare a b L) ?_;rintro e w' ⟨rfl,rfl⟩;refine⟨_,rfl,aj _ _,?_⟩;rw [Bp,Bp,<- cC B]
end
end Go.Proofs.YtcpplgcgcbihoaaGreatDoor
