/- Texts of the proof, joined (0). -/
import Derived.Test.YtcpplgcgcbihoaaGreatDoorProg
import Derived.WalkKit
import Derived.WalkSpells
import Derived.WalkLawsBesides
import Derived.BigQuiet
import Derived.Deep.QuietTactic
import Derived.Deep.CutBlock
import Derived.Deep.DeepCutAuto
import Derived.Laws.OwnMore
import Derived.Laws.IdiomCopy
import Derived.ArgAppend
import Derived.Deep.Draws
import Derived.RegionTactic
import Derived.Deep.RegionWith
import Derived.Deep.RegionHeld3
import Derived.Deep.RegionLaw
import Derived.Laws.Rows
import Derived.Laws.Tables
import Derived.Laws.CopyRow
import Derived.Laws.MakeOwn
import Derived.Great.BuildSlice
import Derived.Orders
import Derived.Laws.Small
import Derived.Laws.StructEq
import Derived.Laws.Cover3
import Derived.WideLaws
import Derived.Lib.AppendStr
import Derived.Lib.ConvBytes
import Derived.Laws.BytesString
import Derived.Lib.SmallJoins
import Derived.Lib.ItoaNum
import Derived.Lib.AtoiAll
import Derived.Shelf.Small.Bits
import Derived.Shelf.Small.Strs
import Derived.Shelf.Small.Wraps
import Derived.Shelf.Strconv.Atoi
import Derived.Shelf.Strconv.Itoa0
import Derived.Shelf.Strconv.Itoa1
import Derived.Shelf.LaysM
import Derived.Shelf.Strconv.Itoa2
import Derived.Shelf.Strconv.Itoa3
import Derived.Shelf.Strconv.AtoiErrFast
import Derived.Shelf.Strconv.ParseIntEmpty
import Derived.Shelf.Strconv.AtoiFail
import Derived.Shelf.Strconv.Clone
import Derived.Shelf.Strconv.SyntaxError
import Derived.Shelf.LaysC
import Derived.Shelf.Strconv.ToError
import Derived.Shelf.Strconv.Lower
import Derived.Shelf.Strconv.ParseUint10
import Derived.Shelf.Strconv.ParseUint10Empty
import Derived.Shelf.Strconv.ParseUint10Any
import Derived.Shelf.Strconv.ParseInt10
import Derived.Shelf.Strconv.AtoiLong
import Derived.Shelf.Strconv.AtoiInnerAll
import Derived.Shelf.Strconv.RangeError
import Derived.Shelf.Strconv.ToErrorRange
import Derived.Shelf.Strconv.AtoiAll
import Derived.Shelf.Strconv.ErrVarAll
import Derived.Lib.AppendIntMem
import Derived.IntWalk
set_option linter.unusedVariables false
set_option linter.unusedSimpArgs false
set_option linter.unusedSectionVars false
namespace Go.Proofs.YtcpplgcgcbihoaaGreatDoor
section
open Go.RowKit
variable {a:World} {cs:Array Value} {g:Nat}
abbrev MA:=@Array.any_eq_true'
abbrev OM:=@Array.getD_eq_getD_getElem?
abbrev MB:=@Array.getElem?_append_left
abbrev Al:=@Array.getElem?_eq_getElem
abbrev MC:=@Array.getElem?_eq_none
abbrev Cv:=@Array.getElem?_eq_some_iff
abbrev FI:=@Array.getElem?_modify
abbrev ON:=@Array.getElem?_push_lt
abbrev ME:=@Array.getElem?_push_size
abbrev FN:=@Array.toList_inj
abbrev HI:=@Array.toList_map
abbrev HJ:=@BitVec.ofInt_natCast
abbrev FE:=@BitVec.xor_assoc
abbrev HK:=@BitVec.xor_zero
abbrev ri:=@Bool.and_eq_true
abbrev HL:=@Bool.false_eq_true
abbrev uZ:=@Bool.not_eq_true'
abbrev jj:=@Bool.not_false
abbrev eT:=@Bool.not_true
abbrev yD:=@Bool.or_eq_true
abbrev yE:=@Bool.true_and
abbrev j7:=@ByteArray.size_append
abbrev HM:=@Classical.byContradiction
abbrev zT:=@Exists.intro
abbrev K6:=@Int.fdiv_eq_ediv_of_nonneg
abbrev rj:=@Int.le_refl
abbrev C7:=@Int.tmod_lt_of_pos
abbrev C8:=@Int.tmod_nonneg
abbrev s3:=@Int.toNat_natCast
abbrev HN:=@List.Pairwise.filter
abbrev rn:=@List.Pairwise.nil
abbrev FF:=@List.any_eq_false
abbrev BO:=@List.any_eq_true
abbrev fc:=@List.append_assoc
abbrev yF:=@List.append_nil
abbrev C9:=@List.drop_eq_getElem_cons
abbrev Da:=@List.drop_length
abbrev BP:=@List.drop_zero
abbrev BQ:=@List.eq_nil_of_length_eq_zero
abbrev s4:=@List.filter_append
abbrev wW:=@List.filter_cons_of_neg
abbrev Db:=@List.filter_cons_of_pos
abbrev HO:=@List.filter_eq_nil_iff
abbrev Dc:=@List.filter_eq_self
abbrev FG:=@List.find?_eq_none
abbrev s5:=@List.flatMap_append
abbrev u0:=@List.flatMap_cons
abbrev FH:=@List.foldl_cons
abbrev K7:=@List.getD_eq_getElem?_getD
abbrev HP:=@List.getElem?_append
abbrev pp:=@List.getElem?_append_left
abbrev sL:=@List.getElem?_append_right
abbrev Dd:=@List.getElem?_cons_succ
abbrev De:=@List.getElem?_cons_zero
abbrev vV:=@List.getElem?_drop
abbrev cQ:=@List.getElem?_eq_getElem
abbrev HQ:=@List.getElem?_eq_none
abbrev cm:=@List.getElem?_eq_some_iff
abbrev BR:=@List.getElem?_eraseIdx
abbrev ro:=@List.getElem?_map
abbrev yG:=@List.getElem?_set
abbrev Df:=@List.getElem?_set_self
abbrev s6:=@List.getElem?_take
abbrev gX:=@List.getElem_mem
abbrev HS:=@List.getElem_of_mem
abbrev FJ:=@List.getElem_set_ne
abbrev bm:=@List.length_append
abbrev j8:=@List.length_cons
abbrev nr:=@List.length_drop
abbrev pq:=@List.length_map
abbrev rp:=@List.length_nil
abbrev FK:=@List.length_set
abbrev FL:=@List.length_singleton
abbrev fe:=@List.length_take
abbrev BS:=@List.map_append
abbrev HT:=@List.map_congr_left
abbrev wX:=@List.map_cons
abbrev zU:=@List.map_map
abbrev FM:=@List.map_nil
abbrev HU:=@List.map_toArray
abbrev de:=@List.mem_append
abbrev mD:=@List.mem_append_left
abbrev vW:=@List.mem_append_right
abbrev dC:=@List.mem_cons
abbrev wY:=@List.mem_cons_of_mem
abbrev vX:=@List.mem_cons_self
abbrev nu:=@List.mem_filter
abbrev ot:=@List.mem_iff_getElem?
abbrev jw:=@List.mem_map
abbrev HV:=@List.mem_map_of_mem
abbrev K8:=@List.mem_of_find?_eq_some
abbrev aK:=@List.mem_of_getElem?
abbrev HW:=@List.mem_of_mem_drop
abbrev K9:=@List.mem_of_mem_eraseIdx
abbrev HX:=@List.mem_of_mem_take
abbrev Dg:=@List.mem_range
abbrev eU:=@List.mem_singleton
abbrev s7:=@List.nil_append
abbrev Dh:=@List.nodup_cons
abbrev iJ:=@List.not_mem_nil
abbrev tv:=@List.pairwise_append
abbrev uP:=@List.pairwise_cons
abbrev fJ:=@List.pairwise_iff_getElem
abbrev Ed:=@List.size_toArray
abbrev pc:=@List.take_append_drop
abbrev fK:=@List.take_length
abbrev zk:=@List.take_of_length_le
abbrev xA:=@Nat.add_assoc
abbrev ju:=@Nat.add_mul
abbrev pd:=@Nat.add_zero
abbrev tw:=@Nat.ble_eq_true_of_le
abbrev zq:=@Nat.div_eq_of_lt
abbrev Ee:=@Nat.div_le_div_left
abbrev vT:=@Nat.div_one
abbrev vU:=@Nat.eq_of_beq_eq_true
abbrev xB:=@Nat.eq_zero_or_pos
abbrev du:=@Nat.le_of_ble_eq_true
abbrev rc:=@Nat.le_of_eq
abbrev bZ:=@Nat.le_refl
abbrev zr:=@Nat.le_succ
abbrev cI:=@Nat.le_trans
abbrev xC:=@Nat.lt_of_lt_of_le
abbrev iz:=@Nat.lt_or_ge
abbrev xD:=@Nat.lt_or_gt_of_ne
abbrev xF:=@Nat.min_eq_left
abbrev Ef:=@Nat.mod_eq_of_lt
abbrev mM:=@Nat.mul_le_mul_right
abbrev xG:=@Nat.mul_right_cancel
abbrev uQ:=@Nat.pow_le_pow_right
abbrev zu:=@Nat.pow_succ
abbrev zv:=@Nat.pow_zero
abbrev uR:=@Nat.sub_self
abbrev Eh:=@Nat.testBit_lt_two_pow
abbrev n4:=@Nat.zero_add
abbrev bT:=@Nat.zero_le
abbrev ad:=@Option.bind_some
abbrev zw:=@Option.getD_some
abbrev mg:=@Option.map_some
abbrev cJ:=@Option.some.inj
abbrev cp:=@Option.some.injEq
abbrev xH:=@Prod.mk.injEq
abbrev zy:=@UInt8.not_lt
abbrev bC:=List Value
noncomputable abbrev aO:=Tryz.prog
abbrev am (x:Int):Value:=.int .i64 x
abbrev aT (x:ByteArray):Value:=.string x
abbrev cg:ByteArray:=ByteArray.mk #[]
def Dr (w w':World):Prop:=∃ n,w'=w.drewN n
theorem Dr.refl (w:World):Dr w w:=⟨0,rfl⟩
theorem Dr.next {w:World} (h:Dr w a) (n:Nat):Dr w (a.drewN n):=by
 obtain⟨m,rfl⟩:=h; exact⟨m+n,by rw [World.drewN_drewN]⟩
theorem Dr.trans {w b:World} (h:Dr w a) (k:Dr a b):Dr w b:=by
 obtain⟨m,rfl⟩:=k; exact h.next m
theorem Dr.below {w:World} (h:Dr w a) (B:Nat):Below B w a:=by
 obtain⟨m,rfl⟩:=h; exact⟨rfl,rfl,rfl,bZ _,fun _ _=>rfl⟩
theorem F5 {w w':World} (h:Below a.heap.size a w) (k:Below w.heap.size w w'):Below a.heap.size a w':=h.trans (k.mono h.size)
structure Le (P:Program) (t e:TypeId) (size bytes:Nat):Prop where
 ht:P.underlying t=some (.slice e)
 hi:∃ i z,P.info? e=some i/\i.zero=some z/\i.size=size/\i.bytes=bytes/\z.cells.size=size
 pos:0<size
def Sl {α:Type} (enc:α->bC) (size:Nat) (w:World) (B:Nat) (v:Value) (xs:List α):Prop :=
 ∃ A c,v = .slice A xs.length c/\xs.length<=c/\c<=maxLen /\
  (xs=[]∨∃ b off,A=some ⟨b,off,none⟩/\b<B/\∀ k x,xs[k]? = some x->∀ j u,(enc x)[j]? = some u->w.cell? ⟨b,off+k*size+j,none⟩=some u)
section
variable {α:Type} {enc:α->bC} {size:Nat} {w w':World} {B B':Nat} {v:Value} {xs:List α}
theorem Sl.keep (h:Sl enc size w B v xs) (O:∀ p:Addr,p.block<B->w'.cell? p=w.cell? p):Sl enc size w' B v xs:=by
 obtain⟨A,c,e,h1,h2,h3⟩:=h;refine⟨A,c,e,h1,h2,?_⟩;rcases h3 with h3 | ⟨b,off,e2,hb,hc⟩
 ·exact .inl h3
 ·exact .inr ⟨b,off,e2,hb,fun k x hx j u hu=>(O _ hb).trans (hc k x hx j u hu)⟩
theorem Sl.below (h:Sl enc size w B v xs) (hb:Below B w w'):Sl enc size w' B v xs:=h.keep fun _ hp=>hb.cell hp
theorem Sl.more (h:Sl enc size w B v xs) (hB:B<=B'):Sl enc size w B' v xs:=by
 obtain⟨A,c,e,h1,h2,h3⟩:=h;refine⟨A,c,e,h1,h2,?_⟩;rcases h3 with h3 | ⟨b,off,e2,hb,hc⟩
 ·exact .inl h3
 ·exact .inr ⟨b,off,e2,by omega,hc⟩
theorem Sl.later (h:Sl enc size w w.heap.size v xs) (hb:Below w.heap.size w w'):Sl enc size w' w'.heap.size v xs:=(h.below hb).more hb.size
theorem Sl.nil_ (c:Nat) (A:Option Addr) (hc:c<=maxLen):Sl enc size w B (.slice A 0 c) []:=⟨A,c,rfl,bT _,hc,.inl rfl⟩
end
def At (w:World) (A:Option Addr) (cs:bC):Prop:=cs=[]∨∃ b off,A=some ⟨b,off,none⟩/\∀ j u,cs[j]? = some u->w.cell? ⟨b,off+j,none⟩=some u
def OS (A:Option Addr) (B:Nat) (cs:bC):Prop:=cs=[]∨∃ b off,A=some ⟨b,off,none⟩/\b<B
theorem At.below {w w':World} {A:Option Addr} {cs:bC} {B:Nat} (h:At w A cs) (hl:OS A B cs) (hb:Below B w w'):At w' A cs:=by
 rcases h with h | ⟨b,off,e,h⟩
 ·exact .inl h
 ·rcases hl with hl | ⟨b',off',e',hl⟩
  ·exact .inl hl
  ·rw [e] at e'; injection e' with e'; injection e' with e1 e2; subst e1 e2;exact .inr ⟨b,off,e,fun j u hu=>(hb.cell (by exact hl)).trans (h j u hu)⟩
theorem At.later {w w':World} {A:Option Addr} {cs:bC} (h:At w A cs) (hl:OS A w.heap.size cs) (hb:Below w.heap.size w w'):At w' A cs:=h.below hl hb
theorem zI {α:Type} {enc:α->bC} {size:Nat} (he:∀ x,(enc x).length=size) (xs:List α):(xs.flatMap enc).length=xs.length*size:=by
 induction xs with
 | nil=>simp
 | cons x r ih=>simp only [u0,bm,he,ih,j8]; rw [ju]; omega
theorem EQ {α:Type} {enc:α->bC} {size:Nat} (he:∀ x,(enc x).length=size):∀ (xs:List α) (k j:Nat) (x:α),xs[k]? = some x->j<size->(xs.flatMap enc)[k*size+j]? = (enc x)[j]?
 | [],k,j,x,h,_=>by simp at h
 | y::r,0,j,x,h,hj=>by
  simp only [De,cp] at h;subst h;simp only [u0,Nat.zero_mul,n4];rw [pp (by rw [he]; exact hj)]
 | y::r,k+1,j,x,h,hj=>by
  simp only [Dd] at h;have:=EQ he r k j x h hj;simp only [u0];rw [sL (by rw [he,ju]; omega),he,<- this];congr 1;rw [ju]; omega
def Cw (w:World) (g:Nat) (cs:Array Value) (e:TypeId):Prop:=∃ fz:Nat×Nat,w.heap[g]? = some (.cells cs e fz)/\(fz=(0,0)∨cs.size<=fz.1)
theorem Cw.of {w:World} {e:TypeId} (h:w.heap[g]? = some (.cells cs e (0,0))):Cw w g cs e:=⟨_,h,.inl rfl⟩
theorem Cw.lt {w:World} {e:TypeId} (h:Cw w g cs e):g<w.heap.size:=by
 obtain⟨fz,h1,_⟩:=h;exact (Cv.1 h1).1
theorem Cw.eqb {w w':World} {e:TypeId} (h:Cw w g cs e) (hb:w'.heap[g]? = w.heap[g]?):Cw w' g cs e:=by
 obtain⟨fz,h1,h2⟩:=h;exact⟨fz,hb.trans h1,h2⟩
theorem Cw.cell {w:World} {e:TypeId} (h:Cw w g cs e) (o:Nat):w.cell? ⟨g,o,none⟩=cs[o]?:=by
 obtain⟨fz,h1,_⟩:=h;exact cell_of_row w g o cs e fz h1
theorem Cw.free {w:World} {e:TypeId} (h:Cw w g cs e) {o:Nat} (ho:o<cs.size):w.frozen? ⟨g,o,none⟩=false:=by
 obtain⟨fz,h1,h2⟩:=h;simp only [World.frozen?,h1];rcases h2 with rfl | h2
 ·simp
 ·simp; omega
theorem Cw.ty {w:World} {cs2:Array Value} {e e2:TypeId} (h:Cw w g cs e) (k:Cw w g cs2 e2):e=e2:=by
 obtain⟨fz,h1,_⟩:=h;obtain⟨fz2,h2,_⟩:=k;rw [h1] at h2;injection h2 with h2;injection h2
def pi (w:World) (B:Nat) (e:TypeId) (size:Nat) (v:Value) (xs:bC):Prop :=
 (v = .slice none 0 0/\xs=[]) ∨
 ∃ g off n cap cs,v = .slice (some ⟨g,off,none⟩) n cap/\xs.length=n*size/\B<=g/\Cw w g cs e/\n<=cap/\cap<=maxLen/\off+cap*size<=cs.size /\
  ∀ j u,xs[j]? = some u->cs[off+j]? = some u
theorem ma (g:Nat) (e:TypeId) (fr:Nat×Nat):∀ (vs:bC) (o:Nat) (w:World) (cs:Array Value),w.heap[g]? = some (.cells cs e fr) ->
  ∃ cs',(w.setCells g o vs).heap[g]? = some (.cells cs' e fr)/\cs'.size=cs.size/\(∀ j,(j<o∨o+vs.length<=j)->cs'[j]? = cs[j]?)/\(o+vs.length<=cs.size->∀ j u,vs[j]? = some u->cs'[o+j]? = some u)
 | [],o,w,cs,h=>⟨cs,h,rfl,fun _ _=>rfl,fun _ j u hu=>by simp at hu⟩
 | v::r,o,w,cs,h=>by
  have h1:(w.setCell ⟨g,o,none⟩ v).heap[g]? = some (.cells (cs.setIfInBounds o v) e fr):=by simp [World.setCell,FI,h]
  obtain⟨cs',a1,a2,a3,a4⟩:=ma g e fr r (o+1) _ _ h1;refine⟨cs',a1,by rw [a2]; simp,fun j hj=>?_,fun hl j u hu=>?_⟩
  ·rw [a3 j (by simp only [j8] at hj; omega),Array.getElem?_setIfInBounds,if_neg (by simp only [j8] at hj; omega)]
  ·simp only [j8] at hl;cases j with
   | zero =>
    simp only [De,cp] at hu;subst hu;rw [pd,a3 o (by omega),Array.getElem?_setIfInBounds,if_pos rfl,if_pos (by omega)]
   | succ j =>
    simp only [Dd] at hu;have:=a4 (by simp; omega) j u hu;rwa [show o+(j+1)=o+1+j by omega]
theorem uG (g:Nat):∀ (vs:bC) (o:Nat) (w:World) (k:Nat),k≠g->(w.setCells g o vs).heap[k]? = w.heap[k]?
 | [],_,_,_,_=>rfl
 | v::r,o,w,k,h=>by
  show ((w.setCell ⟨g,o,none⟩ v).setCells g (o+1) r).heap[k]? = _;rw [uG g r (o+1) _ k h]; exact Below.heap_setCell w _ v k h
theorem tu (g:Nat):∀ (vs:bC) (o:Nat) (w:World),(w.setCells g o vs).heap.size=w.heap.size
 | [],_,_=>rfl
 | v::r,o,w=>by
  show ((w.setCell ⟨g,o,none⟩ v).setCells g (o+1) r).heap.size=_;rw [tu g r (o+1) _]; simp [World.setCell]
theorem jr (g:Nat):∀ (vs:bC) (o:Nat) (w:World),(w.setCells g o vs).os=w.os/\(w.setCells g o vs).tape=w.tape/\(w.setCells g o vs).output=w.output
 | [],_,_=>⟨rfl,rfl,rfl⟩
 | v::r,o,w=>jr g r (o+1) (w.setCell ⟨g,o,none⟩ v)
theorem vJ (w:World) (g o:Nat) (vs:bC):w.grownBy (w.setCells g o vs) (some g) :=
 ⟨(jr g vs o w).1,(jr g vs o w).2.1,(jr g vs o w).2.2,by rw [tu]; exact bZ _,fun k _ O=>uG g vs o w k (fun e=>O (by rw [e]))⟩
section
variable {w w':World} {B B':Nat} {e:TypeId} {size:Nat} {v:Value} {xs:bC}
theorem pi.nil_ (w:World) (B:Nat) (e:TypeId) (size:Nat):pi w B e size (.slice none 0 0) []:=.inl ⟨rfl,rfl⟩
theorem pi.lit (w:World) (B:Nat) (e:TypeId) (size:Nat) (cs:Array Value) (n:Nat) (hB:B<=w.heap.size) (hs:cs.size=n*size) (hc:n<=maxLen):pi (w.alloc (.cells cs e)) B e size (.slice (some ⟨w.heap.size,0,none⟩) n n) cs.toList :=
 .inr ⟨w.heap.size,0,n,n,cs,rfl,by simpa using hs,hB,.of (heap_alloc_new w _),bZ _,hc,by omega,fun j u hu=>by simpa using hu⟩
theorem pi.blk (h:pi w B e size v xs):∀ k,v.ownBlock=some k->B<=k/\k<w.heap.size/\∃ cs,Cw w k cs e:=by
 intro k O;rcases h with⟨rfl,_⟩|⟨g,off,n,cap,cs,rfl,_,hb,hg,_⟩
 ·simp [Value.ownBlock] at O
 ·simp [Value.ownBlock] at O;subst O;exact⟨hb,hg.lt,cs,hg⟩
theorem pi.keep (h:pi w B e size v xs) (O:∀ k,k<w.heap.size->w'.heap[k]? = w.heap[k]?):pi w' B e size v xs:=by
 rcases h with h | ⟨g,off,n,cap,cs,rfl,h1,hb,hgg,rest⟩
 ·exact .inl h
 ·refine .inr ⟨g,off,n,cap,cs,rfl,h1,hb,?_,rest⟩;exact hgg.eqb (O g hgg.lt)
theorem pi.later (h:pi w B e size v xs) (hb:Below w.heap.size w w'):pi w' B e size v xs:=h.keep hb.block
theorem pi.alloc (h:pi w B e size v xs) (o:Obj):pi (w.alloc o) B e size v xs:=h.keep fun k O=>Below.heap_alloc w o k O
theorem pi.drew (h:pi w B e size v xs):pi w.drew B e size v xs:=h
theorem pi.drewN (h:pi w B e size v xs) (n:Nat):pi (w.drewN n) B e size v xs:=h
theorem pi.form (h:pi w B e size v xs) (hs:0<size):∃ A n c,v = .slice A n c/\xs.length=n*size/\n<=c/\c<=maxLen/\At w A xs:=by
 rcases h with⟨rfl,rfl⟩|⟨g,off,n,cap,cs,rfl,h1,hb,hg,hnc,hc,hsz,hcs⟩
 ·exact⟨none,0,0,rfl,by simp,bZ _,bT _,.inl rfl⟩
 ·refine⟨_,n,cap,rfl,h1,hnc,hc,.inr ⟨g,off,rfl,fun j u hu=>?_⟩⟩;rw [hg.cell];exact hcs j u hu
theorem pi.below (h:pi w B e size v xs) (hb:Below B a w) (hB:B<=w.heap.size) (hg:w.grownBy w' v.ownBlock):Below B a w':=hb.grown hg hB (fun k O=>(h.blk k O).1)
theorem pi.apart {B2:Nat} {e2:TypeId} {size2:Nat} {v2:Value} {xs2:bC} (h:pi w B e size v xs) (h2:pi w B2 e2 size2 v2 xs2) (hne:e≠e2):v.ownBlock=none∨v.ownBlock≠v2.ownBlock:=by
 cases hv:v.ownBlock with
 | none=>exact .inl rfl
 | some k =>
  right;intro O;obtain⟨_,_,cs,hc⟩:=h.blk k hv;obtain⟨_,_,cs2,hc2⟩:=h2.blk k O.symm;exact hne (hc.ty hc2)
end
theorem pi.sl {α:Type} {enc:α->bC} {size:Nat} {w:World} {B:Nat} {e:TypeId} {v:Value} {l:List α} (he:∀ x,(enc x).length=size) (hs:0<size) (h:pi w B e size v (l.flatMap enc)) :
  Sl enc size w w.heap.size v l:=by
 rcases h with⟨rfl,h⟩|⟨g,off,n,cap,cs,rfl,h1,hb,hg,hnc,hc,hsz,hcs⟩
 ·have hl:=zI he l;rw [h] at hl;have:l=[]:=by
   cases l with
   | nil=>rfl
   | cons x r=>simp [ju] at hl; omega
  subst this;exact Sl.nil_ 0 none (bT _)
 ·rw [zI he] at h1;have hn:n=l.length:=(xG hs h1).symm;subst hn;refine⟨_,cap,rfl,hnc,hc,.inr ⟨g,off,rfl,hg.lt,fun k x hx j u hu=>?_⟩⟩;have hj:j<size:=by rw [<- he x]; exact (cm.1 hu).1
  rw [hg.cell,xA];exact hcs _ u (by rw [EQ he l k j x hx hj]; exact hu)
section
variable {P:Program}
theorem uY (w:World) (t ty e:TypeId) (i:TypeInfo) (ht:P.underlying t=some (.slice e)) (hi:P.info? e=some i) (A:Option Addr) (n cap c:Nat) (B:Option Addr) (hnc:n<=cap) :
  (Builtin.append_ #[t,t] ty #[.slice A n cap,.slice B 0 c]).run P w = .ok (.slice A n cap) w:=by
 cases A <;> cases B <;> simp [Builtin.append_,run_underlying ht,sizeOf,typeInfo,hi,Builtin.lenOf,Builtin.firstCells,hnc,storeCells,loadCells,loadCellsFrom]
theorem By (w:World) (t ty e:TypeId) (size bytes:Nat) (E:Le P t e size bytes) (B:Nat) (v:Value) (xs:bC) (hown:pi w B e size v xs)
  (A:Option Addr) (m c:Nat) (news:bC) (hl:news.length=m*size) (hat:At w A news) (h1:∀ u∈news,u.oneCell'=true)
  (h63:xs.length+news.length<=maxLen) (hbytes:(xs.length+news.length)*bytes<=140737488355328) (hbase:B<=w.heap.size) :
  ∃ v' w',(Builtin.append_ #[t,t] ty #[v,.slice A m c]).run P w = .ok v' w'/\pi w' B e size v' (xs++news)/\w.grownBy w' v.ownBlock/\(v'.ownBlock=v.ownBlock∨v'.ownBlock=some w.heap.size):=by
 obtain⟨ht,⟨i,z,hi,hz,hsize,hby,hzs⟩,hpos⟩:=E;subst hsize hby;by_cases hm:m=0
 ·subst hm;have hn:news=[]:=BQ (by simpa using hl);subst hn;rcases hown with⟨rfl,rfl⟩|⟨g,off,n,cap,cs,rfl,a1,hb,hg,hnc,hc,hsz,hcs⟩
  ·exact⟨_,w,uY w t ty e i ht hi none 0 0 c A (bZ _),.inl ⟨rfl,rfl⟩,World.grownBy.refl w _,.inl rfl⟩
  ·exact⟨_,w,uY w t ty e i ht hi _ n cap c A hnc,.inr ⟨g,off,n,cap,cs,rfl,by simpa using a1,hb,hg,hnc,hc,hsz,by simpa using hcs⟩,World.grownBy.refl w _,.inl rfl⟩
 ·have hne:news≠[]:=by rintro rfl; rw [rp] at hl; rcases Nat.mul_eq_zero.1 hl.symm with h | h <;> omega
  obtain⟨sb,soff,rfl,hcell⟩:∃ b off,A=some ⟨b,off,none⟩/\∀ j u,news[j]? = some u->w.cell? ⟨b,off+j,none⟩=some u:=by
   rcases hat with h | h
   ·exact absurd h hne
   ·exact h
  have hcell':∀ j u,news[j]? = some u->w.cell? ((⟨sb,soff,none⟩:Addr).add j)=some u:=fun j u hu=>by rw [Addr.add_lit]; exact hcell j u hu
  have hmn:m<=news.length:=by rw [hl]; exact Nat.le_mul_of_pos_right _ hpos
  have grown:∀ (old n:Nat),old<n+m->xs.length=n*i.size->n+m<=xs.length+news.length ->
    pi (w.drew.alloc (.cells (xs.toArray++news.toArray++Builtin.zeroCells z.cells (grownCap w (n+m) old e-(n+m))) e)) B e i.size
     (.slice (some ⟨w.heap.size,0,none⟩) (n+m) (grownCap w (n+m) old e)) (xs++news):=by
   intro old n ho hx hle;have hge:=grownCap_ge w (n+m) old e;have hcm:grownCap w (n+m) old e<=maxLen:=grownCap_le_maxLen w (n+m) old e (by omega);refine .inr ⟨w.heap.size,0,n+m,_,_,rfl,by rw [bm,hx,hl,ju],hbase,.of (heap_alloc_new w.drew _),hge,hcm,?_,?_⟩
   ·simp only [Array.size_append,Ed,size_zeroCells,hzs,hx,hl,<- ju];rw [n4];exact mM _ (by omega)
   ·intro j u hu;rw [n4,MB (by
     have:=(cm.1 hu).1;simpa using this)]
    simpa using hu
  rcases hown with⟨rfl,rfl⟩|⟨g,off,n,cap,cs,rfl,a1,hb,hg,hnc,hc,hsz,hcs⟩
  ·have hr:=run_append_nil (P:=P) w t ty e i z ht hi hz ⟨sb,soff,none⟩ m c news hl hcell' (by omega) (by simp only [maxLen] at h63; simp at h63; omega)
    (by
     have h2:m*i.bytes<=news.length*i.bytes:=mM _ hmn;simp only [rp,n4] at hbytes;omega)
   have hgr:=grown 0 0 (by omega) (by simp) (by simp; omega);simp only [n4,s7,Array.empty_append] at hgr;exact⟨_,_,hr,hgr,⟨rfl,rfl,rfl,by simp,fun k O _=>Below.heap_alloc w.drew _ k O⟩,.inr rfl⟩
  ·have hnx:n<=xs.length:=by rw [a1]; exact Nat.le_mul_of_pos_right _ hpos
   by_cases hroom:n+m<=cap
   ·have hfit:off+n*i.size+news.length<=cs.size:=by
     have:(n+m)*i.size<=cap*i.size:=mM _ hroom;rw [hl]; rw [ju] at this; omega
    have hr:=run_append_room_cells (P:=P) w t ty e i ht hi g off n cap ⟨sb,soff,none⟩ m c news hl hcell' h1 hroom
     (fun j hj=>by rw [hg.cell,Al (by omega)]; rfl)
     (fun j hj=>hg.free (by omega))
    obtain⟨fz,hg0,hfz⟩:=id hg;obtain⟨cs',c1,c2,c3,c4⟩:=ma g e fz news (off+n*i.size) w cs hg0;refine⟨_,_,hr,.inr ⟨g,off,n+m,cap,cs',rfl,by rw [bm,a1,hl,ju],hb,⟨fz,c1,by rw [c2]; exact hfz⟩,hroom,hc,by rw [c2]; exact hsz,fun j u hu=>?_⟩,vJ w g _ news,.inl rfl⟩;by_cases hj:j<xs.length
    ·rw [pp hj] at hu;rw [c3 _ (by omega)];exact hcs j u hu
    ·rw [sL (by omega)] at hu;have:=c4 hfit (j-xs.length) u hu;rwa [show off+n*i.size+(j-xs.length)=off+j by omega] at this
   ·have hr:=run_append_grow (P:=P) w t ty e i z ht hi hz ⟨g,off,none⟩ n cap xs a1 (fun j u hu=>by rw [Addr.add_lit,hg.cell]; exact hcs j u hu)
     ⟨sb,soff,none⟩ m c news hl hcell' (by omega) (by simp only [maxLen] at h63; omega)
     (growslice_fits (by omega) (by
      have h2:(n+m)*i.bytes<=(xs.length+news.length)*i.bytes:=mM _ (by omega);omega))
    have hgr:=grown cap n (by omega) a1 (by omega);exact⟨_,_,hr,hgr,⟨rfl,rfl,rfl,by simp,fun k O _=>Below.heap_alloc w.drew _ k O⟩,.inr rfl⟩
theorem wV (w:World) {o:Oper} {a:Act} {K:Act->World->Prop} {Q:Exit->Act->World->Prop} (s x:Operand) (t:TypeId)
  (ho:o.op = .call { callee:=.builtin .append,args:=#[s,x],argTypes:=#[t,t] })
  (e:TypeId) (size bytes:Nat) (E:Le P t e size bytes) (B:Nat) (v:Value) (xs:bC) (hs:a.eval s=v) (hown:pi w B e size v xs)
  (A:Option Addr) (m c:Nat) (news:bC) (hx:a.eval x = .slice A m c) (hl:news.length=m*size) (hat:At w A news) (h1:∀ u∈news,u.oneCell'=true)
  (h63:xs.length+news.length<=maxLen) (hbytes:(xs.length+news.length)*bytes<=140737488355328) (hbase:B<=w.heap.size)
  (h:∀ v' w',pi w' B e size v' (xs++news)->w.grownBy w' v.ownBlock->(v'.ownBlock=v.ownBlock∨v'.ownBlock=some w.heap.size)->K (a.put o.dst v') w'):o.wp P a w K Q:=by
 obtain⟨v',w',hrun,h2,h3,h4⟩:=By (P:=P) w t o.type e size bytes E B v xs hown A m c news hl hat h1 h63 hbytes hbase;unfold Oper.wp execOp;simp only [ho,resolve,invoke,builtin,Sem.run_bind,Sem.run_pure,Result.andThen_ok,HU,wX,FM,hs,hx,hrun];exact h v' w' h2 h3 h4
end
def La (w:World):Type:={ w':World // Below w.heap.size w w' }
instance La.some_ (w:World):Nonempty (La w):=⟨⟨w,Below.refl _ _⟩⟩
def La.w {w:World} (x:La w):World:=x.1
theorem La.below {w:World} (x:La w):Below w.heap.size w x.w:=x.2
theorem La.cell {w:World} (x:La w) {p:Addr} {v:Value} (h:w.cell? p=some v):x.w.cell? p=some v:=(x.below.cell (World.block_lt_of_cell? w p h)).trans h
theorem La.sl {α:Type} {enc:α->bC} {size:Nat} {w:World} {v:Value} {xs:List α} (x:La w) (h:Sl enc size w w.heap.size v xs):Sl enc size x.w x.w.heap.size v xs:=h.later x.below
theorem La.call {P:Program} {f:FuncId} {args:Array Value} {w:World} {x:La w} {v:Value}
  (h:Calls P f args x.w fun e w''=>e = .returned v/\Below x.w.heap.size x.w w''):Calls P f args x.w fun e w''=>e = .returned v/\∃ y:La w,w''=y.w :=
 h.mono fun _ w'' ⟨he,hb⟩=>⟨he,⟨w'',F5 x.below hb⟩,rfl⟩
theorem La.same {P:Program} {f:FuncId} {args:Array Value} {w:World} {x:La w} {v:Value}
  (h:Calls P f args x.w fun e w''=>e = .returned v/\x.w=w''):Calls P f args x.w fun e w''=>e = .returned v/\∃ y:La w,w''=y.w :=
 h.mono fun _ _ ⟨he,hb⟩=>⟨he,x,hb.symm⟩
end
section
open Go.RowKit
variable {T T':Nat->Prop} {cl cs:bC} {v:Value} {w w':World} {α:Type} {x:α} {xs:List α}
structure Kt (T:Nat->Prop) (w w':World):Prop where
 os:w'.os=w.os
 tape:w'.tape=w.tape
 output:w'.output=w.output
 size:w.heap.size<=w'.heap.size
 block:∀ k,k<w.heap.size->¬ T k->w'.heap[k]? = w.heap[k]?
def No:Nat->Prop:=fun _=>False
theorem aj (T:Nat->Prop) (w:World):Kt T w w:=⟨rfl,rfl,rfl,bZ _,fun _ _ _=>rfl⟩
theorem Kt.trans {a b c:World} (h:Kt T a b) (k:Kt T b c):Kt T a c :=
 ⟨k.os.trans h.os,k.tape.trans h.tape,k.output.trans h.output,cI h.size k.size,fun i hi hn=>(k.block i (xC hi h.size) hn).trans (h.block i hi hn)⟩
theorem Kt.mono (h:Kt T w w') (hT:∀ k,T k->T' k):Kt T' w w':=⟨h.os,h.tape,h.output,h.size,fun k O hn=>h.block k O (fun ht=>hn (hT k ht))⟩
theorem Kt.no (h:Kt No w w'):Kt T w w':=h.mono fun _ h=>h.elim
theorem Kt.step {M:Nat->Prop} {a b c:World} (h:Kt M a b) (k:Kt T b c) (hT:∀ k,T k->M k∨a.heap.size<=k):Kt M a c :=
 ⟨k.os.trans h.os,k.tape.trans h.tape,k.output.trans h.output,cI h.size k.size,fun i hi hn=>(k.block i (xC hi h.size) (fun ht=>by rcases hT i ht with h1 | h1; exact hn h1; omega)).trans (h.block i hi hn)⟩
theorem Kt.below (h:Kt No w w'):Below w.heap.size w w':=⟨h.os,h.tape,h.output,h.size,fun k O=>h.block k O (fun h=>h)⟩
theorem Kt.ofBelow (h:Below w.heap.size w w'):Kt No w w':=⟨h.os,h.tape,h.output,h.size,fun k O _=>h.block k O⟩
theorem Kt.drew (w:World):Kt No w w.drew:=⟨rfl,rfl,rfl,bZ _,fun _ _ _=>rfl⟩
theorem Kt.drewN (w:World) (n:Nat):Kt No w (w.drewN n):=⟨rfl,rfl,rfl,bZ _,fun _ _ _=>rfl⟩
theorem Kt.alloc (w:World) (o:Obj):Kt No w (w.alloc o):=⟨rfl,rfl,rfl,by simp,fun k O _=>Below.heap_alloc w o k O⟩
theorem Kt.setCell (w:World) (p:Addr) (v:Value):Kt (fun k=>k=p.block) w (w.setCell p v) :=
 ⟨rfl,rfl,rfl,by simp [World.setCell],fun k _ hn=>Below.heap_setCell w p v k hn⟩
theorem Kt.setCells (w:World) (g o:Nat) (vs:bC):Kt (fun k=>k=g) w (w.setCells g o vs) :=
 ⟨(jr g vs o w).1,(jr g vs o w).2.1,(jr g vs o w).2.2,by rw [tu]; exact bZ _,fun k _ hn=>uG g vs o w k hn⟩
theorem Kt.grown {row:Option Nat} (h:w.grownBy w' row):Kt (fun k=>row=some k) w w' :=
 ⟨h.os,h.tape,h.output,h.size,fun k O hn=>h.block k O (fun e=>hn e.symm)⟩
theorem Kt.cell (h:Kt T w w') {p:Addr} (hl:p.block<w.heap.size) (hn:¬ T p.block):w'.cell? p=w.cell? p:=World.cell?_of_block (w:=w) (h.block _ hl hn)
def Nw (T T':Nat->Prop) (w:World):Prop:=∀ k,T' k->T k∨w.heap.size<=k
theorem Nw.refl (T:Nat->Prop) (w:World):Nw T T w:=fun _ h=>.inl h
structure cD where
 p:(Nat->Prop)->World->Prop
 keep:∀ {T T':Nat->Prop} {w w':World},p T w->Kt T w w'->Nw T T' w->p T' w'
structure aL (α:Type) where
 size:Nat
 rel:(Nat->Prop)->World->bC->α->Prop
 len:∀ {T w cs x},rel T w cs x->cs.length=size
 one:∀ {T w cs x},rel T w cs x->∀ u∈cs,u.oneCell'=true
 keep:∀ {T T':Nat->Prop} {w w':World} {cs x},rel T w cs x->Kt T w w'->Nw T T' w->rel T' w' cs x
def ox (T:Nat->Prop) (w:World) (b o:Nat) (cs:bC):Prop:=¬ T b/\b<w.heap.size/\∀ j u,cs[j]? = some u->w.cell? ⟨b,o+j,none⟩=some u
theorem ox.keep {b o:Nat} (h:ox T w b o cs) (k:Kt T w w') (hn:Nw T T' w):ox T' w' b o cs :=
 ⟨fun ht=>by rcases hn b ht with h1 | h1; exact h.1 h1; have:=h.2.1; omega,xC h.2.1 k.size,fun j u hu=>(k.cell (p:=⟨b,o+j,none⟩) h.2.1 h.1).trans (h.2.2 j u hu)⟩
def eH (b o:Nat) (cs:bC):cD:=⟨fun T w=>ox T w b o cs,fun h k n=>h.keep k n⟩
theorem ox.sub {b o:Nat} {ds:bC} (k:Nat) (h:ox T w b o cs) (hd:∀ j u,ds[j]? = some u->cs[k+j]? = some u):ox T w b (o+k) ds :=
 ⟨h.1,h.2.1,fun j u hu=>by have:=h.2.2 (k+j) u (hd j u hu); rwa [<- xA] at this⟩
def aG (R:aL α) (T:Nat->Prop) (w:World) (v:Value) (xs:List α):Prop :=
 ∃ A c,v = .slice A xs.length c/\xs.length<=c/\c<=maxLen /\
  (xs=[]∨∃ b off,A=some ⟨b,off,none⟩/\∀ k x,xs[k]? = some x->∃ cs,R.rel T w cs x/\ox T w b (off+k*R.size) cs)
theorem aG.keep {R:aL α} (h:aG R T w v xs) (k:Kt T w w') (hn:Nw T T' w):aG R T' w' v xs:=by
 obtain⟨A,c,e,h1,h2,h3⟩:=h;refine⟨A,c,e,h1,h2,?_⟩;rcases h3 with h3 | ⟨b,off,e2,hc⟩
 ·exact .inl h3
 ·refine .inr ⟨b,off,e2,fun i x hx=>?_⟩;obtain⟨cs,ha,hb⟩:=hc i x hx;exact⟨cs,R.keep ha k hn,hb.keep k hn⟩
theorem aG.sub {R:aL α} (h:aG R T w v xs) (hn:Nw T T' w):aG R T' w v xs:=h.keep (aj _ _) hn
theorem aG.nil_ (R:aL α) (T:Nat->Prop) (w:World):aG R T w (.slice none 0 0) []:=⟨none,0,rfl,bZ _,bT _,.inl rfl⟩
theorem aG.one {R:aL α} (h:aG R T w v xs):v.oneCell'=true:=by obtain⟨A,c,rfl,_⟩:=h; rfl
def aQ (R:aL α) (v:Value) (xs:List α):cD:=⟨fun T w=>aG R T w v xs,fun h k n=>h.keep k n⟩
theorem aG.len {R:aL α} (h:aG R T w v xs):∃ A c,v = .slice A xs.length c/\xs.length<=c/\c<=maxLen:=by obtain⟨A,c,e,h1,h2,_⟩:=h; exact⟨A,c,e,h1,h2⟩
def bG (xs:List α) (i:Int):Option α:=if 0<=i then xs[i.toNat]? else none
theorem gY {i:Int} (h:bG xs i=some x):0<=i/\i<xs.length/\xs[i.toNat]? = some x:=by
 unfold bG at h;split at h
 ·have:=(cm.1 h).1;exact⟨by omega,by omega,h⟩
 ·cases h
def aL.slice (R:aL α):aL (List α) where
 size:=1
 rel:=fun T w cs xs=>∃ v,cs=[v]/\aG R T w v xs
 len:=by rintro _ _ _ _ ⟨v,rfl,_⟩; rfl
 one:=by rintro _ _ _ _ ⟨v,rfl,h⟩ u hu; simp only [dC,iJ,or_false] at hu; subst hu; exact h.one
 keep:=by rintro _ _ _ _ _ _ ⟨v,rfl,h⟩ k n; exact⟨v,rfl,h.keep k n⟩
def aL.int (k:IntKind):aL Int where
 size:=1
 rel:=fun _ _ cs x=>cs=[.int k x]
 len:=by rintro _ _ _ _ rfl; rfl
 one:=by rintro _ _ _ _ rfl u hu; simp only [dC,iJ,or_false] at hu; subst hu; rfl
 keep:=fun h _ _=>h
def aL.bool:aL Bool where
 size:=1
 rel:=fun _ _ cs x=>cs=[.bool x]
 len:=by rintro _ _ _ _ rfl; rfl
 one:=by rintro _ _ _ _ rfl u hu; simp only [dC,iJ,or_false] at hu; subst hu; rfl
 keep:=fun h _ _=>h
def aL.str:aL ByteArray where
 size:=1
 rel:=fun _ _ cs x=>cs=[.string x]
 len:=by rintro _ _ _ _ rfl; rfl
 one:=by rintro _ _ _ _ rfl u hu; simp only [dC,iJ,or_false] at hu; subst hu; rfl
 keep:=fun h _ _=>h
def aL.prod {β:Type} (R:aL α) (S:aL β):aL (α×β) where
 size:=R.size+S.size
 rel:=fun T w cs x=>∃ c d,cs=c++d/\R.rel T w c x.1/\S.rel T w d x.2
 len:=by rintro _ _ _ _ ⟨c,d,rfl,h1,h2⟩; rw [bm,R.len h1,S.len h2]
 one:=by rintro _ _ _ _ ⟨c,d,rfl,h1,h2⟩ u hu; rcases de.1 hu with h | h; exact R.one h1 u h; exact S.one h2 u h
 keep:=by rintro _ _ _ _ _ _ ⟨c,d,rfl,h1,h2⟩ k n; exact⟨c,d,rfl,R.keep h1 k n,S.keep h2 k n⟩
def aL.via {β:Type} (R:aL α) (f:β->α):aL β where
 size:=R.size
 rel:=fun T w cs x=>R.rel T w cs (f x)
 len:=fun h=>R.len h
 one:=fun h=>R.one h
 keep:=fun h k n=>R.keep h k n
def aY (R:aL α) (T:Nat->Prop) (w:World) (cl:bC) (xs:List α):Prop:=cl.length=xs.length*R.size/\∀ k x,xs[k]? = some x->∃ cs,R.rel T w cs x/\∀ j u,cs[j]? = some u->cl[k*R.size+j]? = some u
theorem aY.keep {R:aL α} (h:aY R T w cl xs) (k:Kt T w w') (hn:Nw T T' w):aY R T' w' cl xs :=
 ⟨h.1,fun i x hx=>by obtain⟨cs,h1,h2⟩:=h.2 i x hx; exact⟨cs,R.keep h1 k hn,h2⟩⟩
def ao (R:aL α) (cl:bC) (xs:List α):cD:=⟨fun T w=>aY R T w cl xs,fun h k n=>h.keep k n⟩
theorem aY.nil_ (R:aL α) (T:Nat->Prop) (w:World):aY R T w [] []:=⟨by simp,fun k x hx=>by simp at hx⟩
theorem aY.append {R:aL α} {dl:bC} {ys:List α} (h:aY R T w cl xs) (k:aY R T w dl ys):aY R T w (cl++dl) (xs++ys):=by
 refine⟨by rw [bm,bm,h.1,k.1,ju],fun i x hx=>?_⟩;by_cases hi:i<xs.length
 ·rw [pp hi] at hx;obtain⟨cs,h1,h2⟩:=h.2 i x hx;refine⟨cs,h1,fun j u hu=>?_⟩;have:=h2 j u hu;rw [pp (cm.1 this).1]; exact this
 ·rw [sL (by omega)] at hx;obtain⟨cs,h1,h2⟩:=k.2 _ x hx;refine⟨cs,h1,fun j u hu=>?_⟩;have:=h2 j u hu;have he:xs.length*R.size+((i-xs.length)*R.size+j)=i*R.size+j:=by
   rw [<- xA,<- ju]; congr 2; omega
  rw [sL (by rw [h.1,<- he]; omega),h.1,<- he,Nat.add_sub_cancel_left];exact this
theorem aF {R:aL α} (h:R.rel T w cs x):aY R T w cs [x]:=by
 refine⟨by rw [R.len h]; simp,fun k y hy=>?_⟩;cases k with
 | zero=>simp only [De,cp] at hy; subst hy; exact⟨cs,h,fun j u hu=>by rw [Nat.zero_mul,n4]; exact hu⟩
 | succ k=>simp at hy
theorem aY.cell {R:aL α} (hs:0<R.size) (h:aY R T w cl xs):∀ u∈cl,u.oneCell'=true:=by
 intro u hu;obtain⟨i,hi,e⟩:=HS hu;have O:i / R.size<xs.length:=by rw [Nat.div_lt_iff_lt_mul hs,<- h.1]; exact hi
 obtain⟨cs,h1,h2⟩:=h.2 _ _ (cQ O);have hl:=R.len h1;have hj:i % R.size<cs.length:=by rw [hl]; exact Nat.mod_lt _ hs
 have:=h2 _ _ (cQ hj);rw [Nat.div_add_mod' i R.size,cQ hi,e] at this;injection this with this;rw [this];exact R.one h1 _ (gX hj)
theorem pi.rd {R:aL α} {B:Nat} {e:TypeId} (hs:0<R.size) (h:pi w B e R.size v cl) (hr:aY R T w cl xs) (hT:∀ k,v.ownBlock=some k->¬ T k):aG R T w v xs:=by
 rcases h with⟨rfl,rfl⟩|⟨g,off,n,cap,cs,rfl,h1,hb,hg,hnc,hc,hsz,hcs⟩
 ·have hl:=hr.1;have:xs=[]:=by
   cases xs with
   | nil=>rfl
   | cons x r=>simp [ju] at hl; omega
  subst this;exact aG.nil_ _ _ _
 ·have hn:n=xs.length:=xG hs (h1.symm.trans hr.1);subst hn;refine⟨_,cap,rfl,hnc,hc,.inr ⟨g,off,rfl,fun k x hx=>?_⟩⟩;obtain⟨ds,h2,h3⟩:=hr.2 k x hx;refine⟨ds,h2,hT g rfl,hg.lt,fun j u hu=>?_⟩;rw [hg.cell,xA];exact hcs _ u (h3 j u hu)
theorem aG.rows {R:aL α} {A:Option Addr} {n c:Nat} (hs:0<R.size) (h:aG R T w (.slice A n c) xs):n=xs.length/\∃ cl,At w A cl/\aY R T w cl xs:=by
 obtain⟨A',c',e,h1,h2,h3⟩:=h;injection e with e1 e2 e3;subst e1 e2 e3;refine⟨rfl,?_⟩;rcases h3 with rfl | ⟨b,off,rfl,hc⟩
 ·exact⟨[],.inl rfl,aY.nil_ _ _ _⟩
 ·have key:∀ (ys:List α) (o:Nat),(∀ k x,ys[k]? = some x->∃ cs,R.rel T w cs x/\ox T w b (o+k*R.size) cs)->∃ cl:bC,(∀ j u,cl[j]? = some u->w.cell? ⟨b,o+j,none⟩=some u)/\aY R T w cl ys:=by
   intro ys
   induction ys with
   | nil=>intro o _; exact⟨[],fun j u hu=>by simp at hu,aY.nil_ _ _ _⟩
   | cons y r ih =>
    intro o ho;obtain⟨cs,g1,g2⟩:=ho 0 y rfl;obtain⟨cl,g3,g4⟩:=ih (o+R.size) (fun k x hx=>by
     obtain⟨ds,g5,g6⟩:=ho (k+1) x (by simpa using hx);exact⟨ds,g5,by rwa [show o+(k+1)*R.size=o+R.size+k*R.size by rw [ju]; omega] at g6⟩)
    refine⟨cs++cl,fun j u hu=>?_,(aF g1).append g4⟩;have hl:=R.len g1;by_cases hj:j<cs.length
    ·rw [pp hj] at hu;have:=g2.2.2 j u hu;rwa [Nat.zero_mul,pd] at this
    ·rw [sL (by omega)] at hu;have:=g3 _ u hu;rwa [show o+R.size+(j-cs.length)=o+j by omega] at this
  obtain⟨cl,g1,g2⟩:=key xs off hc;exact⟨cl,.inr ⟨b,off,rfl,g1⟩,g2⟩
theorem aG.get {R:aL α} (h:aG R T w v xs) {i:Int} (hx:bG xs i=some x) :
  ∃ b o c,v = .slice (some ⟨b,o,none⟩) xs.length c/\xs.length<=c/\∃ cs,R.rel T w cs x/\ox T w b (o+i.toNat*R.size) cs:=by
 obtain⟨hi0,hi1,hi2⟩:=gY hx;obtain⟨A,c,rfl,h1,h2,h3⟩:=h;rcases h3 with h3 | ⟨b,off,rfl,hc⟩
 ·subst h3; simp at hi1; omega
 ·exact⟨b,off,c,rfl,h1,hc _ _ hi2⟩
end
section
open Go.RowKit
theorem Ob {a b:Nat} (h:¬ a=b):Nat.beq a b=false:=by
 cases hb:Nat.beq a b
 ·rfl
 ·exact absurd (vU hb) h
def lk:List (Nat×Value)->Nat->Option Value
 | [],_=>none
 | p::r,t=>cond (Nat.beq p.1 t) (some p.2) (lk r t)
structure BZ where
 v:Value
 e:TypeId
 sz:Nat
 cl:bC
def BZ.ok (w:World) (o:BZ):Prop:=pi w 0 o.e o.sz o.v o.cl/\0<o.sz
inductive cZ where
 | grp (inn:List BZ)
 | box (b:Nat) (cs:bC) (t:TypeId)
 | own (v:Value) (e:TypeId) (sz:Nat) (cl:bC)
 | obj (b:Nat) (o:Obj)
def cZ.dom:cZ->Nat->Prop
 | .box b _ _=>fun k=>some b=some k
 | .own v _ _ _=>fun k=>v.ownBlock=some k
 | .obj b _=>fun k=>some b=some k
 | .grp inn=>fun k=>∃ o∈inn,o.v.ownBlock=some k
def cZ.bare:cZ->Bool
 | .own (.slice none _ _) _ _ _=>true
 | _=>false
def cZ.ok (w:World):cZ->Prop
 | .box b cs t=>w.heap[b]? = some (.cells cs.toArray t (0,0))
 | .own v e sz cl=>pi w 0 e sz v cl/\0<sz
 | .obj b o=>w.heap[b]? = some o
 | .grp inn=>(∀ o∈inn,o.ok w)/\inn.Pairwise fun r s=>∀ k,r.v.ownBlock=some k->s.v.ownBlock≠some k
theorem cZ.bare_no {r:cZ} (h:r.bare=true):∀ k,¬ r.dom k:=by
 intro k O;unfold cZ.bare at h;split at h
 ·cases O
 ·cases h
theorem BZ.lt {w:World} {o:BZ} (h:o.ok w) {k:Nat} (O:o.v.ownBlock=some k):k<w.heap.size:=(h.1.blk k O).2.1
theorem BZ.keep {w w':World} {o:BZ} (h:o.ok w) (O:∀ k,o.v.ownBlock=some k->w'.heap[k]? = w.heap[k]?):o.ok w':=by
 obtain⟨h1,h2⟩:=h;refine⟨?_,h2⟩;rcases h1 with h1 | ⟨g,off,n,cap,cs,q0,q1,q2,q3,rest⟩
 ·exact .inl h1
 ·exact .inr ⟨g,off,n,cap,cs,q0,q1,q2,q3.eqb (O g (by rw [q0]; rfl)),rest⟩
def dT (T:Nat->Prop) (D:List cZ):Nat->Prop:=fun k=>T k∨∃ r∈D,r.dom k
theorem cZ.lt {w:World} {r:cZ} (h:r.ok w):∀ k,r.dom k->k<w.heap.size:=by
 intro k O;cases r with
 | box b cs t=>simp only [cZ.dom,cp] at O; subst O; exact (Cv.1 h).1
 | own v e sz cl=>exact (h.1.blk k O).2.1
 | obj b o=>simp only [cZ.dom,cp] at O; subst O; exact (Cv.1 h).1
 | grp inn=>obtain⟨o,ho,O⟩:=O; exact BZ.lt (h.1 o ho) O
theorem cZ.keep {w w':World} {r:cZ} (h:r.ok w) (O:∀ k,r.dom k->w'.heap[k]? = w.heap[k]?):r.ok w':=by
 cases r with
 | box b cs t=>exact (O b rfl).trans h
 | obj b o=>exact (O b rfl).trans h
 | grp inn=>exact⟨fun o ho=>BZ.keep (h.1 o ho) fun k hk2=>O k ⟨o,ho,hk2⟩,h.2⟩
 | own v e sz cl =>
  obtain⟨h1,h2⟩:=h;refine⟨?_,h2⟩;rcases h1 with h1 | ⟨g,off,n,cap,cs,rfl,q1,q2,q3,rest⟩
  ·exact .inl h1
  ·exact .inr ⟨g,off,n,cap,cs,rfl,q1,q2,q3.eqb (O g rfl),rest⟩
structure St (W:World) (M T:Nat->Prop) (n:Nat) (G:List (Nat×Value)) (D:List cZ) (F:List cD) (a:Act) (w:World):Prop where
 size:a.tmps.size=n
 defers:a.defers=[]
 slots:∀ t v,lk G t=some v->a.tmps[t]? = some v
 base:Kt M W w
 own:∀ r∈D,r.ok w
 free:∀ r∈D,∀ k,r.dom k->¬ T k/\(M k∨W.heap.size<=k)
 apart:D.Pairwise fun r s=>∀ k,r.dom k->¬ s.dom k
 facts:∀ f∈F,f.p (dT T D) w
 tlt:∀ k,T k->k<w.heap.size
section
variable {W:World} {M T:Nat->Prop} {n:Nat} {G G':List (Nat×Value)} {D D':List cZ} {F F':List cD} {a:Act} {w w':World}
theorem St.dlt (h:St W M T n G D F a w):∀ k,dT T D k->k<w.heap.size:=by
 rintro k (O | ⟨r,hr,O⟩)
 ·exact h.tlt k O
 ·exact cZ.lt (h.own r hr) k O
theorem St.put (h:St W M T n G D F a w) {d:Nat} (hd:Nat.blt d n=true) (v:Value):St W M T n ((d,v)::G) D F (a.put (some d) v) w:=by
 have hd:d<n:=du hd;refine⟨by simpa [Act.put] using h.size,h.defers,fun t u hu=>?_,h.base,h.own,h.free,h.apart,h.facts,h.tlt⟩;simp only [lk] at hu;by_cases e:d=t
 ·subst e;rw [show Nat.beq d d=true from by simp] at hu;simp only [cond_true,cp] at hu;subst hu;simp [Act.put,h.size,hd]
 ·rw [Ob e] at hu;have:=h.slots t u hu;simp only [Act.put];rw [Array.getElem?_setIfInBounds_ne e]; exact this
theorem St.fact (h:St W M T n G D F a w) (f:cD) (hf:f.p (dT T D) w):St W M T n G D (f::F) a w :=
 ⟨h.size,h.defers,h.slots,h.base,h.own,h.free,h.apart,fun g hg=>by rcases dC.1 hg with rfl | hg; exact hf; exact h.facts g hg,h.tlt⟩
theorem St.get (h:St W M T n G D F a w) (i:Nat) {f:cD} (hi:F[i]? = some f):f.p (dT T D) w:=h.facts f (aK hi)
theorem St.later (h:St W M T n G D F a w) (k:Kt No w w'):St W M T n G D F a w' :=
 ⟨h.size,h.defers,h.slots,h.base.step k (fun _ h=>h.elim),fun r hr=>cZ.keep (h.own r hr) fun j hj=>k.block j (cZ.lt (h.own r hr) j hj) (fun h=>h),h.free,h.apart,
  fun f hf=>f.keep (h.facts f hf) k.no (Nw.refl _ _),fun j hj=>xC (h.tlt j hj) k.size⟩
theorem G1 {T:Nat->Prop} {D:List cZ} {r:cZ} {k:Nat}:dT T (r::D) k↔dT T D k∨r.dom k:=by
 unfold dT;simp only [dC,exists_eq_or_imp];constructor
 ·rintro (h | h | h)
  ·exact .inl (.inl h)
  ·exact .inr h
  ·exact .inl (.inr h)
 ·rintro ((h | h) | h)
  ·exact .inl h
  ·exact .inr (.inr h)
  ·exact .inr (.inl h)
theorem St.add (h:St W M T n G D F a w) (k:Kt No w w') (r:cZ) (hr:r.ok w') (hn:∀ k,r.dom k->w.heap.size<=k):St W M T n G (r::D) F a w':=by
 have h':=h.later k;refine⟨h'.size,h'.defers,h'.slots,h'.base,?_,?_,?_,fun f hf=>f.keep (h.facts f hf) k.no (fun j hj=>?_),h'.tlt⟩
 ·intro s hs;rcases dC.1 hs with rfl | hs
  ·exact hr
  ·exact h'.own s hs
 ·intro s hs j hj;rcases dC.1 hs with rfl | hs
  ·have:=hn j hj;refine⟨fun ht=>?_,.inr ?_⟩
   ·have:=h.tlt j ht; omega
   ·have:=h.base.size; omega
  ·exact h'.free s hs j hj
 ·refine uP.2 ⟨fun s hs j hj hj2=>?_,h.apart⟩;have:=hn j hj;have:=cZ.lt (h.own s hs) j hj2;omega
 ·rcases G1.1 hj with h1 | h1
  ·exact .inl h1
  ·exact .inr (hn j h1)
theorem St.alloc (h:St W M T n G D F a w) (cs:bC) (t:TypeId):St W M T n G (.box w.heap.size cs t::D) F a (w.alloc (.cells cs.toArray t)) :=
 h.add (Kt.alloc _ _) _ (heap_alloc_new w _) (fun k O=>by simp only [cZ.dom,cp] at O; omega)
theorem St.turn (h:St W M T n G D F a w) {i:Nat} {r r':cZ} (hi:D[i]? = some r) (k:Kt (fun j=>r.dom j) w w') (hr:r'.ok w') (hd:∀ j,r'.dom j->r.dom j∨w.heap.size<=j) :
  St W M T n G (D.set i r') F a w':=by
 have hmem:=aK hi;have hlt:=(cm.1 hi).1;have hne:∀ j s,j≠i->D[j]? = some s->∀ q,s.dom q->¬ r.dom q:=by
  intro j s hj hs q hq hq2;have hjl:=(cm.1 hs).1;have e1:=(cm.1 hs).2;have e2:=(cm.1 hi).2;rcases xD hj with hji | hji
  ·have:=fJ.1 h.apart j i hjl hlt hji q (by rw [e1]; exact hq);rw [e2] at this; exact this hq2
  ·have:=fJ.1 h.apart i j hlt hjl hji q (by rw [e2]; exact hq2);rw [e1] at this; exact this hq
 have qU:∀ s,s∈D.set i r'->s=r'∨∃ j,j≠i/\D[j]? = some s:=by
  intro s hs;obtain⟨j,hj,e⟩:=HS hs;by_cases hji:i=j
  ·subst hji; rw [List.getElem_set_self] at e; exact .inl e.symm
  ·rw [FJ hji] at e;exact .inr ⟨j,fun e=>hji e.symm,by rw [<- e]; exact cQ _⟩
 refine⟨h.size,h.defers,h.slots,h.base.step k (fun j hj=>(h.free r hmem j hj).2),?_,?_,?_,fun f hf=>f.keep (h.facts f hf) (k.mono fun j hj=>.inr ⟨r,hmem,hj⟩) (fun j hj=>?_),fun j hj=>xC (h.tlt j hj) k.size⟩
 ·intro s hs;rcases qU s hs with rfl | ⟨j,hj,hs⟩
  ·exact hr
  ·have ho:=h.own s (aK hs);exact cZ.keep ho fun q hq=>k.block q (cZ.lt ho q hq) (hne j s hj hs q hq)
 ·intro s hs q hq;rcases qU s hs with rfl | ⟨j,hj,hs⟩
  ·rcases hd q hq with h1 | h1
   ·exact h.free r hmem q h1
   ·refine⟨fun ht=>?_,.inr ?_⟩
    ·have:=h.tlt q ht; omega
    ·have:=h.base.size; omega
  ·exact h.free s (aK hs) q hq
 ·rw [fJ];intro x y hx hy hxy q hq hq2;have hx':x<D.length:=by simpa using hx
  have hy':y<D.length:=by simpa using hy
  have old:∀ z (hz:z<D.length),D[z].dom q->q<w.heap.size:=fun z hz e=>cZ.lt (h.own _ (gX hz)) q e;by_cases h1:i=x
  ·subst h1;rw [List.getElem_set_self] at hq;rw [FJ (by omega)] at hq2;rcases hd q hq with h2 | h2
   ·exact hne y _ (by omega) (cQ hy') q hq2 h2
   ·have:=old y hy' hq2; omega
  ·by_cases h2:i=y
   ·subst h2;rw [List.getElem_set_self] at hq2;rw [FJ h1] at hq;rcases hd q hq2 with h3 | h3
    ·exact hne x _ (by omega) (cQ hx') q hq h3
    ·have:=old x hx' hq; omega
   ·rw [FJ h1] at hq;rw [FJ h2] at hq2;exact fJ.1 h.apart x y hx' hy' hxy q hq hq2
 ·rcases hj with hj | ⟨s,hs,hj⟩
  ·exact .inl (.inl hj)
  ·rcases qU s hs with rfl | ⟨z,hz,hs⟩
   ·rcases hd j hj with h1 | h1
    ·exact .inl (.inr ⟨r,hmem,h1⟩)
    ·exact .inr h1
   ·exact .inl (.inr ⟨s,aK hs,hj⟩)
theorem St.res (h:St W M T n G D F a w) {D':List cZ} (hs:∀ r∈D',r∈D) (hp:D'.Pairwise fun r s=>∀ k,r.dom k->¬ s.dom k):St W M T n G D' F a w :=
 ⟨h.size,h.defers,h.slots,h.base,fun r hr=>h.own r (hs r hr),fun r hr=>h.free r (hs r hr),hp,fun f hf=>f.keep (h.facts f hf) (aj _ _) (fun k O=>.inl (by
  rcases O with O | ⟨r,hr,O⟩
  ·exact .inl O
  ·exact .inr ⟨r,hs r hr,O⟩)),h.tlt⟩
theorem St.drop (h:St W M T n G D F a w) (i:Nat):St W M T n G (D.eraseIdx i) F a w :=
 h.res (fun r hr=>K9 hr) (h.apart.sublist (List.eraseIdx_sublist _ _))
def MI (G:List (Nat×Value)):List (Nat×Value)->Prop
 | []=>True
 | p::r=>lk G p.1=some p.2/\MI G r
theorem MI.lk_ {G:List (Nat×Value)}:∀ {G':List (Nat×Value)},MI G G'->∀ t v,lk G' t=some v->lk G t=some v
 | [],_,t,v,hv=>by simp [lk] at hv
 | p::r,h,t,v,hv=>by
  simp only [lk] at hv;by_cases e:p.1=t
  ·subst e;rw [show Nat.beq p.1 p.1=true from by simp] at hv;simp only [cond_true,cp] at hv;subst hv; exact h.1
  ·rw [Ob e] at hv;exact MI.lk_ h.2 t v hv
theorem St.slot (h:St W M T n G D F a w) (hs:MI G G'):St W M T n G' D F a w :=
 ⟨h.size,h.defers,fun t v hv=>h.slots t v (hs.lk_ t v hv),h.base,h.own,h.free,h.apart,h.facts,h.tlt⟩
theorem St.sel (h:St W M T n G D F a w) (hs:∀ f∈F',f∈F):St W M T n G D F' a w :=
 ⟨h.size,h.defers,h.slots,h.base,h.own,h.free,h.apart,fun f hf=>h.facts f (hs f hf),h.tlt⟩
theorem St.old (h:St W M T n G D F a w) {k:Nat} (O:dT T D k):T k∨M k∨W.heap.size<=k:=by
 rcases O with h1 | ⟨r,hr,h1⟩
 ·exact .inl h1
 ·exact .inr (h.free r hr k h1).2
theorem St.zf {α:Type} {R:aL α} {v:Value} {e:TypeId} {cl:bC} {xs:List α} (h:St W M T n G D F a w) (i:Nat) (hi:D[i]? = some (.own v e R.size cl)) (j:Nat) (hj:F[j]? = some (ao R cl xs)):St W M T n G (D.eraseIdx i) (aQ R v xs::F) a w:=by
 have hlt:=(cm.1 hi).1;have hD:=(cm.1 hi).2;obtain⟨ho,hs⟩:=h.own _ (aK hi);have hr:aY R (dT T D) w cl xs:=h.get j hj;have h2:=h.drop i;refine h2.fact _ ?_;refine pi.rd hs ho (hr.keep (aj _ _) (fun k O=>.inl ?_)) (fun k O hT=>?_)
 ·rcases O with O | ⟨r,hr,O⟩
  ·exact .inl O
  ·exact .inr ⟨r,K9 hr,O⟩
 ·rcases hT with hT | ⟨s,hs,hT⟩
  ·exact (h.free _ (aK hi) k O).1 hT
  ·obtain⟨z,hz⟩:=ot.1 hs;rw [BR] at hz;split at hz
   ·rename_i hzi;have hzl:=(cm.1 hz).1;have:=fJ.1 h.apart z i hzl hlt hzi k (by rw [(cm.1 hz).2]; exact hT);rw [hD] at this; exact this O
   ·rename_i hzi;have hzl:=(cm.1 hz).1;have:=fJ.1 h.apart i (z+1) hlt hzl (by omega) k (by rw [hD]; exact O);rw [(cm.1 hz).2] at this; exact this hT
end
theorem St.start (W:World) (M T:Nat->Prop) (n:Nat) (vs:bC) (hT:∀ k,T k->k<W.heap.size) (hn:vs.length<=n) (G:List (Nat×Value)) (hG:∀ t v,lk G t=some v->vs[t]? = some v) :
  St W M T n G [] [] { tmps:=vs.toArray++Array.replicate (n-vs.toArray.size) undef,defers:=[] } W:=by
 refine⟨by simp; omega,rfl,fun t v hv=>?_,aj _ _,fun r hr=>(by cases hr),fun r hr=>(by cases hr),rn,fun f hf=>(by cases hf),hT⟩;have h1:=hG t v hv;have h2:=(cm.1 h1).1;simp only [Array.getElem?_append,Ed,h2,if_true,List.getElem?_toArray];exact h1
def mO:Nat->bC->List (Nat×Value)
 | _,[]=>[]
 | k,v::r=>(k,v)::mO (k+1) r
theorem Ap:∀ (vs:bC) (k t:Nat) (v:Value),lk (mO k vs) t=some v->k<=t/\vs[t-k]? = some v
 | [],k,t,v,h=>by simp [mO,lk] at h
 | u::r,k,t,v,h=>by
  simp only [mO,lk] at h;by_cases e:k=t
  ·subst e;rw [show Nat.beq k k=true from by simp] at h;simp only [cond_true,cp] at h;subst h; simp
  ·rw [Ob e] at h;obtain⟨h1,h2⟩:=Ap r (k+1) t v h;refine⟨by omega,?_⟩;rw [show t-k=(t-(k+1))+1 by omega,Dd]; exact h2
def bc (P:Program) (M:Nat->Prop) (f:FuncId) (args:bC) (w:World) (R:Value->World->Prop):Prop :=
 Calls P f args.toArray w fun e w'=>∃ v,e = .returned v/\Kt M w w'/\R v w'
theorem bc.mono {P:Program} {M:Nat->Prop} {f:FuncId} {args:bC} {w:World} {R R':Value->World->Prop} (h:bc P M f args w R) (C:∀ v w',R v w'->R' v w'):bc P M f args w R' :=
 Calls.mono h fun e w' ⟨v,h1,h2,h3⟩=>⟨v,h1,h2,C v w' h3⟩
def OZ (M:Nat->Prop) (W:World) (R:Value->World->Prop):Ending->World->Prop:=fun e w'=>∃ v,e = .returned v/\Kt M W w'/\R v w'
theorem enter {P:Program} {M:Nat->Prop} {f:FuncId} {fn:Func} {c:Code} {args:bC} {w:World} {R:Value->World->Prop} (hf:P.funcs[f]? = some fn) (hb:fn.body=some c)
  (T:Nat->Prop) (n:Nat) (hn:fn.ntmps=n) (hT:∀ k,T k->k<w.heap.size) (hl:Nat.ble args.length n=true)
  (h:∀ a,St w M T n (mO 0 args) [] [] a w->c.wp P (bodyPost P fn (OZ M w R)) a w):bc P M f args w R:=by
 refine calls_of_wp hf hb (h _ ?_);subst hn;exact St.start w M T _ args hT (du hl) _ fun t v hv=>by
  obtain⟨h1,h2⟩:=Ap args 0 t v hv;simpa using h2
end
section
open Go.RowKit
variable {Q:Exit->Act->World->Prop} {ag:Bool} {b:Nat} {c:Bool} {d:Option Nat} {e:TypeId} {f j:Nat} {o:Oper} {ops:Array Oper} {p q:Int} {rest:List Oper} {s t t' ty:TypeId} {us:bC} {v:Value} {want:Bool} {x y:Operand} {z:Nat}
variable {pos:String} {af:Array Edge} {g:Option (Nat×Bool)}
def ev (G:List (Nat×Value)):Operand->Option Value
 | .tmp t=>lk G t
 | .const v=>some v
 | .func f=>some (.func (.func f) #[] #[])
 | .global g=>some (.pointer (some ⟨g,0,none⟩))
def evs (G:List (Nat×Value)):List Operand->Option (bC)
 | []=>some []
 | x::r=>match ev G x with
  | some v=>match evs G r with
   | some vs=>some (v::vs)
   | none=>none
  | none=>none
def ru (P:Program) (o:Oper) (a:Act) (w:World) (K:Act->World->Prop):Prop:=∀ (K':Act->World->Prop) (Q:Exit->Act->World->Prop),(∀ a w,K a w->K' a w)->o.wp P a w K' Q
def Ye (P:Program) (o:Oper) (a:Act) (E:Nat->Prop) (w:World) (v:Value):Prop:=∀ w',Kt E w w'->(execOp a.eval o).run P w' = .ok (.value v) w'
def pQ (P:Program) (t:TypeId):Option (Bool×Nat) :=
 match P.underlying t,P.info? t with
 | some (.struct _),some i=>some (true,i.size)
 | some (.array _ _),some i=>some (true,i.size)
 | some _,some i=>some (false,i.size)
 | _,_=>none
def Ie (P:Program) (s:TypeId) (f:Nat):Option Nat :=
 match P.underlying s with
 | some (.struct fs)=>match fs[f]? with
  | some d=>match P.info? d.type with
   | some i=>if i.size=0 then none else some d.offset
   | none=>none
  | none=>none
 | _=>none
section
variable {P:Program} {W:World} {M T E:Nat->Prop} {n:Nat} {G G':List (Nat×Value)} {D D':List cZ} {F F':List cD} {a:Act} {w w':World} {K:Act->World->Prop}
theorem St.ev (h:St W M T n G D F a w) (hx:ev G x=some v):a.eval x=v:=by
 cases x with
 | tmp t =>
  have:=h.slots t v hx;simp [Act.eval,OM,this]
 | const u=>simp only [Proofs.YtcpplgcgcbihoaaGreatDoor.ev,cp] at hx; exact hx
 | func f=>simp only [Proofs.YtcpplgcgcbihoaaGreatDoor.ev,cp] at hx; exact hx
 | global g=>simp only [Proofs.YtcpplgcgcbihoaaGreatDoor.ev,cp] at hx; exact hx
theorem St.evs (h:St W M T n G D F a w):∀ {xs:List Operand} {vs:bC},evs G xs=some vs->xs.map a.eval=vs
 | [],vs,hx=>by simp only [Proofs.YtcpplgcgcbihoaaGreatDoor.evs,cp] at hx; subst hx; rfl
 | x::r,vs,hx=>by
  simp only [Proofs.YtcpplgcgcbihoaaGreatDoor.evs] at hx;cases h1:Proofs.YtcpplgcgcbihoaaGreatDoor.ev G x with
  | none=>rw [h1] at hx; cases hx
  | some v =>
   cases h2:Proofs.YtcpplgcgcbihoaaGreatDoor.evs G r with
   | none=>rw [h1,h2] at hx; cases hx
   | some us =>
    rw [h1,h2] at hx;simp only [cp] at hx;subst hx;rw [wX,h.ev h1,h.evs h2]
theorem wl (hg:o.guard=none) (h:ru P o a w (wpList P ops Q rest)):wpList P ops Q (o::rest) a w :=
 wpList_plain hg fun K hK=>h K Q hK
theorem rV {t:Nat} (h:St W M T n G D F a w) (hg:o.guard=some (j,want)) (hj:(ops[j]?).bind (·.dst)=some t) (ht:lk G t=some (.bool c)):Region.wanted o (yielded ops a.tmps)=(c==want):=by
 have h1:=h.slots t _ ht;unfold Region.wanted yielded;rw [hg];simp only [hj,ad,h1];cases c <;> cases want <;> rfl
theorem wg {t:Nat} (I:St W M T n G D F a w) (hg:o.guard=some (j,want)) (hj:(ops[j]?).bind (·.dst)=some t) (ht:lk G t=some (.bool c)) (hc:c=want) (h:ru P o a w (wpList P ops Q rest)):wpList P ops Q (o::rest) a w :=
 wpList_step fun K hK=>by rw [if_pos (by rw [rV I hg hj ht,hc]; simp)]; exact h K Q hK
theorem wn {t d:Nat} (I:St W M T n G D F a w) (hg:o.guard=some (j,want)) (hj:(ops[j]?).bind (·.dst)=some t) (ht:lk G t=some (.bool c)) (hc:c = !want) (hd:o.dst=some d) (hn:Nat.blt d n=true)
  (h:∀ a,St W M T n ((d,undef)::G) D F a w->wpList P ops Q rest a w):wpList P ops Q (o::rest) a w :=
 wpList_step fun K hK=>by rw [if_neg (by rw [rV I hg hj ht,hc]; cases want <;> simp)]; rw [hd]; exact hK _ _ (h _ (I.put hn _))
theorem SX {t d:Nat} (I:St W M T n G D F a w) (hg:o.guard=some (j,want)) (hj:(ops[j]?).bind (·.dst)=some t) (ht:lk G t=some undef) (hd:o.dst=some d) (hn:Nat.blt d n=true)
  (h:∀ a,St W M T n ((d,undef)::G) D F a w->wpList P ops Q rest a w):wpList P ops Q (o::rest) a w :=
 wpList_step fun K hK=>by
  have h1:=I.slots t _ ht;have h2:Region.wanted o (yielded ops a.tmps)=false:=by
   unfold Region.wanted yielded;rw [hg];simp only [hj,ad,h1];rfl
  rw [if_neg (by rw [h2]; simp),hd]; exact hK _ _ (h _ (I.put hn _))
theorem Ye.k (h:Ye P o a E w v):ru P o a w (fun a' w'=>a'=a.put o.dst v/\w'=w):=fun K' Q hK=>by
 unfold Oper.wp;rw [h w (aj _ _),Oper.upon_value];exact hK _ _ ⟨rfl,rfl⟩
theorem ru.mono {K':Act->World->Prop} (h:ru P o a w K) (O:∀ a w,K a w->K' a w):ru P o a w K':=fun K2 Q h2=>h K2 Q fun a w ha=>h2 a w (O a w ha)
theorem ky {d:Nat} (I:St W M T n G D F a w) (h:Ye P o a No w v) (hd:o.dst=some d) (hn:Nat.blt d n=true) (k:∀ a,St W M T n ((d,v)::G) D F a w->K a w):ru P o a w K :=
 h.k.mono fun a' w' ⟨h1,h2⟩=>by subst h1 h2; rw [hd]; exact k _ (I.put hn v)
theorem wy {d:Nat} (I:St W M T n G D F a w) (h:Ye P o a No w v) (hg:o.guard=none) (hd:o.dst=some d) (hn:Nat.blt d n=true) (k:∀ a,St W M T n ((d,v)::G) D F a w->wpList P ops Q rest a w):wpList P ops Q (o::rest) a w :=
 wl hg (ky I h hd hn k)
theorem Ye.of (h:∀ w,(execOp a.eval o).run P w = .ok (.value v) w):Ye P o a E w v:=fun w' _=>h w'
theorem K5 (I:St W M T n G D F a w) (hx:ev G x=some v):Ye P ⟨d,.move x,ty,pos,af,g⟩ a E w v :=
 Ye.of fun w=>by simp only [execOp,Sem.run_pure,I.ev hx]
theorem FA (I:St W M T n G D F a w) (hx:ev G x=some v):Ye P ⟨d,.assign x,ty,pos,af,g⟩ a E w v :=
 Ye.of fun w=>by simp only [execOp,Sem.run_pure,I.ev hx]
theorem Mx {c:Operand} {b:Bool} (I:St W M T n G D F a w) (hc:ev G c=some (.bool b)) (hb:b=true) (hv:ev G x=some v):Ye P ⟨d,.pick c x y,ty,pos,af,g⟩ a E w v :=
 Ye.of fun w=>by simp [execOp,I.ev hc,I.ev hv,asBool,hb]
theorem Mw {c:Operand} {b:Bool} (I:St W M T n G D F a w) (hc:ev G c=some (.bool b)) (hb:b=false) (hv:ev G y=some v):Ye P ⟨d,.pick c x y,ty,pos,af,g⟩ a E w v :=
 Ye.of fun w=>by simp [execOp,I.ev hc,I.ev hv,asBool,hb]
def N3:BinOp->IntKind->Int->Int->Option Value
 | .add,k,x,y=>some (.int k (k.wrap (x+y)))
 | .sub,k,x,y=>some (.int k (k.wrap (x-y)))
 | .mul,k,x,y=>some (.int k (k.wrap (x*y)))
 | .eql,_,x,y=>some (.bool (x==y))
 | .neq,_,x,y=>some (.bool (x != y))
 | .lss,_,x,y=>some (.bool (decide (x<y)))
 | .leq,_,x,y=>some (.bool (decide (x<=y)))
 | .gtr,_,x,y=>some (.bool (decide (y<x)))
 | .geq,_,x,y=>some (.bool (decide (y<=x)))
 | _,_,_,_=>none
theorem FD {op:BinOp} {k:IntKind} (I:St W M T n G D F a w)
  (hx:ev G x=some (.int k p)) (hy:ev G y=some (.int k q)) (hv:N3 op k p q=some v):Ye P ⟨d,.binOp op t x y t',ty,pos,af,g⟩ a E w v :=
 Ye.of fun w=>by
  have h1:=I.ev hx;have h2:=I.ev hy;cases op <;> simp only [N3,cp,reduceCtorEq] at hv <;> subst hv <;> simp [execOp,h1,h2,eqGuard,binOp,Op.intArith,Op.intCmp]
theorem C6 {k:IntKind} (I:St W M T n G D F a w)
  (hx:ev G x=some (.int k p)) (hy:ev G y=some (.int k q)) (hq:q≠0):Ye P ⟨d,.binOp .rem t x y t',ty,pos,af,g⟩ a E w (.int k (p.tmod q)) :=
 Ye.of fun w=>by
  have h1:=I.ev hx;have h2:=I.ev hy;simp [execOp,h1,h2,eqGuard,binOp,Op.intDiv,hq]
theorem zR {k:IntKind} (I:St W M T n G D F a w)
  (hx:ev G x=some (.int k p)) (hy:ev G y=some (.int k q)) (hq:q≠0):Ye P ⟨d,.binOp .quo t x y t',ty,pos,af,g⟩ a E w (.int k (k.wrap (p.tdiv q))) :=
 Ye.of fun w=>by
  have h1:=I.ev hx;have h2:=I.ev hy;simp [execOp,h1,h2,eqGuard,binOp,Op.intDiv,hq]
def OA:BinOp->ByteArray->ByteArray->Option Value
 | .eql,x,y=>some (.bool (x.toList==y.toList))
 | .neq,x,y=>some (.bool !(x.toList==y.toList))
 | .lss,x,y=>some (.bool (Op.bytesLess x.toList y.toList))
 | .gtr,x,y=>some (.bool !(Op.bytesLess x.toList y.toList||x.toList==y.toList))
 | _,_,_=>none
theorem QP {op:BinOp} {p q:ByteArray} (I:St W M T n G D F a w)
  (hx:ev G x=some (.string p)) (hy:ev G y=some (.string q)) (hv:OA op p q=some v):Ye P ⟨d,.binOp op t x y t',ty,pos,af,g⟩ a E w v :=
 Ye.of fun w=>by
  have h1:=I.ev hx;have h2:=I.ev hy;cases op <;> simp only [OA,cp,reduceCtorEq] at hv <;> subst hv <;> simp [execOp,h1,h2,eqGuard,binOp,Op.stringOp]
theorem nq {p q:ByteArray} (I:St W M T n G D F a w)
  (hx:ev G x=some (.string p)) (hy:ev G y=some (.string q)) (hz:p.size+q.size<=140737488355328):Ye P ⟨d,.binOp .add t x y t',ty,pos,af,g⟩ a E w (.string (p++q)) :=
 Ye.of fun w=>by
  have h1:=I.ev hx;have h2:=I.ev hy;have h3:¬ (((p.size+q.size:Nat):Int)>IntKind.i64.max):=by
   have:IntKind.i64.max=9223372036854775807:=rfl;omega
  simp only [execOp,h1,h2,eqGuard,binOp,Op.stringOp,if_neg h3];simp
theorem QN {b:Bool} (I:St W M T n G D F a w) (hx:ev G x=some (.bool b)):Ye P ⟨d,.unOp .not t x,ty,pos,af,g⟩ a E w (.bool !b) :=
 Ye.of fun w=>by simp [execOp,I.ev hx,Op.unary]
theorem QL {k:IntKind} (I:St W M T n G D F a w) (hx:ev G x=some (.int k p)):Ye P ⟨d,.unOp .neg t x,ty,pos,af,g⟩ a E w (.int k (k.wrap (0-p))) :=
 Ye.of fun w=>by simp [execOp,I.ev hx,Op.unary,Op.intArith]
theorem Sf {i:Nat} {vs:Array Value} (I:St W M T n G D F a w) (hx:ev G x=some (.tuple vs)) (hv:vs[i]? = some v):Ye P ⟨d,.extract x i,ty,pos,af,g⟩ a E w v :=
 Ye.of fun w=>by simp [execOp,I.ev hx,Instr.extract,hv]
theorem QM {p:Addr} (I:St W M T n G D F a w) (hx:ev G x=some (.pointer (some p))):Ye P ⟨d,.nilCheck x,ty,pos,af,g⟩ a E w (.pointer (some p)) :=
 Ye.of fun w=>by simp [execOp,I.ev hx]
def mW (P:Program) (t:TypeId):Option TypeId:=match P.underlying t with
 | some (.slice e)=>some e
 | _=>none
theorem vn (h:mW P t=some e):P.underlying t=some (.slice e):=by
 unfold mW at h;split at h
 ·rename_i e' h1; injection h with h; subst h; exact h1
 ·cases h
theorem K3 {m:Nat} (I:St W M T n G D F a w) (ht:mW P t=some e) (hx:ev G x=some v) (hv:∃ A c,v = .slice A m c):Ye P ⟨d,.call { callee:=.builtin .len,args:=#[x],argTypes:=#[t] },ty,pos,af,g⟩ a E w (.int .i64 m) :=
 Ye.of fun w=>by
  obtain⟨A,c,rfl⟩:=hv;have h1:=I.ev hx;simp [execOp,resolve,invoke,builtin,h1,Builtin.len_,run_underlying (vn ht),goInt]
theorem ND {α:Type} {R:aL α} {xs:List α} (I:St W M T n G D F a w) (ht:mW P t=some e) (hx:ev G x=some v) (i:Nat) (hi:F[i]? = some (aQ R v xs)):Ye P ⟨d,.call { callee:=.builtin .len,args:=#[x],argTypes:=#[t] },ty,pos,af,g⟩ a E w (.int .i64 xs.length) :=
 K3 I ht hx (by obtain⟨A,c,e,_⟩:=aG.len (I.get i hi); exact⟨A,c,e⟩)
theorem Mb {B sz:Nat} {cl:bC} (h:pi w B e sz v cl) (hs:0<sz) {m:Nat} (hm:cl.length=m*sz):∃ A c,v = .slice A m c:=by
 obtain⟨A,k,c,rfl,h1,_⟩:=h.form hs;have:k=m:=xG hs (h1.symm.trans hm);subst this;exact⟨A,c,rfl⟩
theorem K1 {α:Type} {R:aL α} {xs:List α} {cl:bC} {e':TypeId} (I:St W M T n G D F a w) (ht:mW P t=some e) (hx:ev G x=some v) (j:Nat) (hj:D[j]? = some (.own v e' R.size cl)) (i:Nat) (hi:F[i]? = some (ao R cl xs)):Ye P ⟨d,.call { callee:=.builtin .len,args:=#[x],argTypes:=#[t] },ty,pos,af,g⟩ a E w (.int .i64 xs.length) :=
 K3 I ht hx (by obtain⟨h1,h2⟩:=I.own _ (aK hj); exact Mb h1 h2 (I.get i hi:aY R _ w cl xs).1)
theorem OK {s:ByteArray} (I:St W M T n G D F a w) (ht:P.underlying t=some .string) (hx:ev G x=some (.string s)):Ye P ⟨d,.call { callee:=.builtin .len,args:=#[x],argTypes:=#[t] },ty,pos,af,g⟩ a E w (.int .i64 s.size) :=
 Ye.of fun w=>by
  have h1:=I.ev hx;simp [execOp,resolve,invoke,builtin,h1,Builtin.len_,run_underlying ht,goInt]
theorem ID {k:Nat} {o:Nat} (hf:Ie P s f=some k) (w:World):(Instr.fieldAt s (.pointer (some ⟨b,o,none⟩)) f).run P w = .ok (.pointer (some ⟨b,o+k,none⟩)) w:=by
 unfold Ie at hf;split at hf
 ·rename_i fs hu;split at hf
  ·rename_i fd hfd;split at hf
   ·rename_i i hi;split at hf
    ·cases hf
    ·rename_i hz;injection hf with hf;subst hf;have hsz:(sizeOf fd.type).run P w = .ok i.size w:=by simp [sizeOf,typeInfo,hi]
     have hadd:Addr.add ⟨b,o,none⟩ fd.offset=⟨b,o+fd.offset,none⟩:=by
      unfold Addr.add;split
      ·rename_i h0; rw [h0]; rfl
      ·rfl
     simp [Instr.fieldAt,run_underlying hu,hfd,Instr.sureAddr,fieldPlace,hsz,hz,hadd]
   ·cases hf
  ·cases hf
 ·cases hf
theorem FC {k:Nat} {o:Nat} (I:St W M T n G D F a w) (hx:ev G x=some (.pointer (some ⟨b,o,none⟩))) (hf:Ie P s f=some k):Ye P ⟨d,.fieldAddr s x f,ty,pos,af,g⟩ a E w (.pointer (some ⟨b,o+k,none⟩)) :=
 Ye.of fun w=>by simp [execOp,I.ev hx,ID hf]
theorem wt {b:Bool} (h:pQ P t=some (b,z)) (w:World):(isAgg t).run P w = .ok b w:=by
 unfold pQ at h;split at h
 all_goals first | (cases h; done) | skip
 all_goals
  rename_i hu hi;simp only [cp,xH] at h;obtain⟨rfl,_⟩:=h;simp [isAgg,run_underlying hu]
theorem pa {b:Bool} (h:pQ P t=some (b,z)) (w:World):(sizeOf t).run P w = .ok z w:=by
 unfold pQ at h;split at h
 all_goals first | (cases h; done) | skip
 all_goals
  rename_i hu hi;simp only [cp,xH] at h;obtain⟨_,rfl⟩:=h;simp [sizeOf,typeInfo,hi]
theorem oy (b o k:Nat):Addr.add ⟨b,o,none⟩ k=⟨b,o+k,none⟩:=by
 unfold Addr.add;split
 ·rename_i h0; rw [h0]; rfl
 ·rfl
theorem yp {o:Nat}:∀ (m:Nat) (us:bC) (i:Nat) (acc:Array Value) (w:World),us.length=m->(∀ j u,us[j]? = some u->w.cell? ⟨b,o+i+j,none⟩=some u)->(loadCellsFrom ⟨b,o,none⟩ i m acc).run P w = .ok (acc++us.toArray) w
 | 0,us,i,acc,w,hl,_=>by
  obtain rfl:=BQ hl;simp [loadCellsFrom]
 | m+1,us,i,acc,w,hl,hc=>by
  cases us with
  | nil=>simp at hl
  | cons u r =>
   have h0:=hc 0 u rfl;have ih:=yp m r (i+1) (acc.push u) w (by simpa using hl) (fun j v hv=>by have:=hc (j+1) v (by simpa using hv); rwa [show o+i+(j+1)=o+(i+1)+j by omega] at this);rw [pd] at h0;simp [loadCellsFrom,oy,h0,load,ih,Sem.run]
theorem C1 {o:Nat} (ht:pQ P t=some (ag,z)) (hl:us.length=z) (hv:v=cond ag (.agg us.toArray) (us.getD 0 undef)) (hz:ag=false->z=1) (w:World) (hc:∀ j u,us[j]? = some u->w.cell? ⟨b,o+j,none⟩=some u):(loadVar t ⟨b,o,none⟩).run P w = .ok v w:=by
 cases ag with
 | true =>
  have:=yp (P:=P) (b:=b) (o:=o) z us 0 #[] w hl (fun j u hu=>by rw [pd]; exact hc j u hu);rw [hv];simp [loadVar,wt ht,pa ht,loadCells,this]
 | false =>
  have h1:=hz rfl;subst h1;cases us with
  | nil=>simp at hl
  | cons u r =>
   have h0:=hc 0 u rfl;rw [hv];rw [pd] at h0;simp [loadVar,wt ht,load,h0,Sem.run]
def bB (ag:Bool) (us:bC):Value:=cond ag (.agg us.toArray) (us.getD 0 undef)
theorem xv {o:Nat} (ht:pQ P t=some (ag,z)) (hl:us.length=z) (hz:ag=false->z=1) (w:World) (hc:∀ j u,us[j]? = some u->w.cell? ⟨b,o+j,none⟩=some u):(Instr.loadAt t (.pointer (some ⟨b,o,none⟩))).run P w = .ok (bB ag us) w:=by
 simp [Instr.loadAt,Instr.sureAddr,C1 ht hl rfl hz w hc,bB]
theorem eB {o:Nat} {cs:bC} {bt:TypeId} (I:St W M T n G D F a w) (hx:ev G x=some (.pointer (some ⟨b,o,none⟩))) (ht:pQ P t=some (ag,z)) (i:Nat) (hi:D[i]? = some (.box b cs bt)) (hE:¬ E b)
  (hu:(cs.drop o).take z=us) (hl:us.length=z) (hz:ag=false->z=1):Ye P ⟨d,.load t x,ty,pos,af,g⟩ a E w (bB ag us):=fun w' O=>by
 have hr:w.heap[b]? = some (.cells cs.toArray bt (0,0)):=I.own _ (aK hi);have hr':=(O.block b (Cv.1 hr).1 hE).trans hr;have:=xv (P:=P) (b:=b) (o:=o) ht hl hz w' (fun j u hj=>by
  rw [cell_of_row _ _ _ _ _ _ hr',List.getElem?_toArray];rw [<- hu,s6] at hj;split at hj
  ·rw [vV] at hj; exact hj
  ·cases hj)
 simp [execOp,I.ev hx,this]
theorem wz {o k:Nat} {cs:bC} (I:St W M T n G D F a w) (ht:pQ P t=some (ag,z)) (i:Nat) (hi:F[i]? = some (eH b o cs)) (hx:ev G x=some (.pointer (some ⟨b,o+k,none⟩))) (hE:∀ j,E j->dT T D j∨w.heap.size<=j)
  (hu:(cs.drop k).take z=us) (hl:us.length=z) (hz:ag=false->z=1):Ye P ⟨d,.load t x,ty,pos,af,g⟩ a E w (bB ag us):=fun w' O=>by
 have hc:ox (dT T D) w b o cs:=I.get i hi;have hk2:Kt (dT T D) w w':=⟨O.os,O.tape,O.output,O.size,fun j hj hn=>O.block j hj fun he=>(hE j he).elim hn fun h=>by omega⟩;have hc':=(hc.keep hk2 (Nw.refl _ _)).sub (ds:=us) k (fun j u hj=>by
  rw [<- hu,s6] at hj;split at hj
  ·rw [vV] at hj; exact hj
  ·cases hj)
 have:=xv (P:=P) (b:=b) (o:=o+k) ht hl hz w' hc'.2.2;simp [execOp,I.ev hx,this]
theorem FB {cs:Array Value} {k:Nat} {fs:Array Field} {fd:Field} (I:St W M T n G D F a w) (hx:ev G x=some (.agg cs)) (hs:P.underlying s=some (.struct fs)) (hf:fs[f]? = some fd) (O:fd.offset=k) (ht:pQ P fd.type=some (ag,z))
  (hu:(cs.toList.drop k).take z=us) (hl:us.length=z) (hz:ag=false->z=1):Ye P ⟨d,.field s x f,ty,pos,af,g⟩ a E w (bB ag us) :=
 Ye.of fun w=>by
  have h1:=I.ev hx;subst O;have hp:(part fd.type cs fd.offset).run P w = .ok (bB ag us) w:=by
   cases ag with
   | true =>
    have:cs.extract fd.offset (fd.offset+z)=us.toArray:=by
     rw [<- hu];apply FN.1;rw [Array.toList_extract,List.extract_eq_take_drop];simp
    simp [part,wt ht,pa ht,this,bB]
   | false =>
    have h1:=hz rfl;subst h1;have:cs[fd.offset]? = some (us.getD 0 undef):=by
     rw [<- hu] at hl ⊢;rw [fe,nr] at hl;have hlt:fd.offset<cs.toList.length:=by omega
     rw [<- Array.getElem?_toList,cQ hlt];simp [K7,s6,vV,cQ hlt]
    simp [part,wt ht,this,bB]
  simp [execOp,h1,Instr.field,run_underlying hs,hf,asAgg,hp]
theorem uO {k:IntKind} {i:Int} {p:ByteArray} {c:UInt8} (I:St W M T n G D F a w) (hs:P.underlying s=some .string) (hx:ev G x=some (.string p)) (hy:ev G y=some (.int k i)) (hc:bG p.toList i=some c):Ye P ⟨d,.index s x y,ty,pos,af,g⟩ a E w (.int .u8 c.toNat) :=
 Ye.of fun w=>by
  have h1:=I.ev hx;have h2:=I.ev hy;obtain⟨q1,q2,q3⟩:=gY hc;have h3:p[i.toNat]? = some c:=by
   rw [ByteArray.toList_eq,Array.getElem?_toList] at q3;rw [<- q3]; rfl
  simp [execOp,h1,h2,Instr.index,asIntOf,run_underlying hs,q1,h3]
end
end
section
open Go.RowKit
variable {cs:bC} {t ty:TypeId} {v:Value}
variable {pos:String} {af:Array Edge} {g:Option (Nat×Bool)}
def gj (P:Program) (t:TypeId):Option (bC):=match P.info? t with
 | some i=>match i.zero with
  | some z=>some z.cells.toList
  | none=>none
 | none=>none
def ov (cs:bC) (o:Nat) (us:bC):bC:=cs.take o++us++cs.drop (o+us.length)
def CD (pl:List (Nat×Nat)) (cs:bC):List (Nat×Value)->List (bC)->Option (bC)
 | [],[]=>some cs
 | p::r,u::s=>match pl[p.1]? with
  | some q=>cond (Nat.beq u.length q.2&&Nat.ble (q.1+q.2) cs.length) (CD pl (ov cs q.1 u) r s) none
  | none=>none
 | _,_=>none
def Cs:List (Nat×Value)->List (bC)->Prop
 | [],[]=>True
 | p::r,u::s=>p.2.cells.toList=u/\Cs r s
 | _,_=>False
theorem lh (h:v.oneCell'=true):v.cells.toList=[v]:=by cases v <;> first | rfl | cases h
def BW (P:Program) (t:TypeId):Option (List (Nat×Nat)):=match P.underlying t with
 | some (.struct fs)=>fs.toList.mapM fun f=>(P.info? f.type).map fun i=>(f.offset,i.size)
 | _=>none
def evp (G:List (Nat×Value)):List (Nat×Operand)->Option (List (Nat×Value))
 | []=>some []
 | p::r=>match ev G p.2 with
  | some v=>match evp G r with
   | some vs=>some ((p.1,v)::vs)
   | none=>none
  | none=>none
theorem Fp:∀ (us:bC) (o k:Nat) (cs:Array Value),o+k+us.length<=cs.size->((us.zipIdx k).foldl (fun cs x=>cs.setIfInBounds (o+x.2) x.1) cs).toList=cs.toList.take (o+k)++us++cs.toList.drop (o+k+us.length)
 | [],o,k,cs,h=>by simp
 | u::r,o,k,cs,h=>by
  simp only [j8] at h;rw [List.zipIdx_cons,FH,Fp r o (k+1) _ (by simp; omega)];simp only [Array.toList_setIfInBounds,j8];apply List.ext_getElem?;intro j;have hl:cs.toList.length=cs.size:=by simp
  simp only [HP,bm,fe,FK,s6,yG,vV,j8];rw [hl];rw [show min (o+(k+1)) cs.size=o+k+1 by omega,show min (o+k) cs.size=o+k by omega];by_cases h1:j<o+k
  ·simp [h1,show j<o+k+1+r.length by omega,show j<o+(k+1) by omega,show j<o+k+1 by omega,show j<o+k+(r.length+1) by omega,show ¬ o+k=j by omega]
  ·by_cases h2:j=o+k
   ·subst h2;simp [show o+k<o+k+1+r.length by omega,show o+k<o+(k+1) by omega,show o+k<cs.size by omega]
   ·by_cases h3:j<o+k+1+r.length
    ·simp [h1,h3,show ¬ j<o+k+1 by omega,show j<o+k+(r.length+1) by omega];rw [show j-(o+k)=(j-(o+k+1))+1 by omega,Dd]
    ·simp [h3,show ¬ j<o+k+1 by omega,show ¬ j<o+k+(r.length+1) by omega,show ¬ o+k=o+(k+1)+r.length+(j-(o+k+1+r.length)) by omega];congr 1; omega
theorem DB {place:Nat->Option (Nat×Nat)} {pl:List (Nat×Nat)} (hp:∀ i q,pl[i]? = some q->place i=some q):∀ (parts:List (Nat×Value)) (us:List (bC)) (cs ws:bC),Cs parts us->CD pl cs parts us=some ws->Instr.fill place cs.toArray parts=some ws.toArray
 | [],[],cs,ws,_,h=>by simp only [CD,cp] at h; subst h; rfl
 | [],_::_,_,_,h,_=>h.elim
 | _::_,[],_,_,h,_=>h.elim
 | (i,v)::r,u::s,cs,ws,hc0,h=>by
  obtain⟨hu,hc1⟩:=hc0;simp only at hu;subst hu;simp only [CD] at h;cases hq:pl[i]? with
  | none=>rw [hq] at h; cases h
  | some q =>
   obtain⟨off,size⟩:=q;rw [hq] at h;simp only at h;cases hc:(Nat.beq v.cells.toList.length size&&Nat.ble (off+size) cs.length) with
   | false=>rw [hc] at h; cases h
   | true =>
    rw [hc] at h;simp only [cond_true] at h;simp only [ri] at hc;have h1:v.cells.size=size:=by have:=vU hc.1; simpa using this
    have h2:off+size<=cs.length:=du hc.2;have ih:=DB hp r s _ ws hc1 h;have e:(v.cells.zipIdx.foldl (fun cs x=>cs.setIfInBounds (off+x.2) x.1) cs.toArray)=(ov cs off v.cells.toList).toArray:=by
     apply FN.1;rw [<- Array.foldl_toList,Array.toList_zipIdx,Fp _ off 0 _ (by simp; omega)];simp [ov]
    have h3:¬ (v.cells.size≠size||decide (off+v.cells.size>cs.toArray.size))=true:=by simp [h1]; omega
    simp only [Instr.fill,hp i _ hq];simp only [ne_eq,decide_not,yD,uZ,decide_eq_false_iff_not,decide_eq_true_eq] at h3 ⊢;rw [if_neg h3];rw [<- ih];congr 1
section
variable {P:Program} {W:World} {M T E:Nat->Prop} {n:Nat} {G G':List (Nat×Value)} {D D':List cZ} {F F':List cD} {a:Act} {w w':World} {K:Act->World->Prop}
theorem A7 {o:Oper} {w':World} (h:(execOp a.eval o).run P w = .ok (.value v) w') (O:K (a.put o.dst v) w'):ru P o a w K:=fun K' Q hK=>by
 unfold Oper.wp;rw [h,Oper.upon_value];exact hK _ _ O
theorem E0 {o:Oper} {w':World} (h:(execOp a.eval o).run P w = .ok .skip w') (O:K (a.put o.dst undef) w'):ru P o a w K:=fun K' Q hK=>by
 unfold Oper.wp;rw [h,Oper.upon_skip];exact hK _ _ O
theorem Di (h:gj P t=some cs) (w:World):∃ z:Value,z.cells.toList=cs/\(zeroValue t).run P w = .ok z w:=by
 unfold gj at h;split at h
 ·rename_i i hi;split at h
  ·rename_i z hz;injection h with h;exact⟨z,h,by simp [zeroValue,typeInfo,hi,hz]⟩
  ·cases h
 ·cases h
theorem dP {d:Nat} (I:St W M T n G D F a w) (hz:gj P t=some cs) (hn:Nat.blt d n=true)
  (k:∀ b,w.heap.size<=b->∀ a w',Kt No w w'->St W M T n ((d,.pointer (some ⟨b,0,none⟩))::G) (.box b cs t::D) F a w'->K a w'):ru P ⟨some d,.alloc t,ty,pos,af,g⟩ a w K:=by
 obtain⟨z,hz1,hz2⟩:=Di hz w;have hr:(execOp a.eval ⟨some d,.alloc t,ty,pos,af,g⟩).run P w = .ok (.value (.pointer (some ⟨w.heap.size,0,none⟩))) (w.alloc (.cells cs.toArray t)):=by
  subst hz1;simp [execOp,Instr.alloc,hz2,newVar,newRow]
 exact A7 hr (k w.heap.size (bZ _) _ _ (Kt.alloc _ _) ((I.alloc cs t).put hn _))
theorem G9 {d:Nat} {x:Operand} (I:St W M T n G D F a w) (hx:ev G x=some v) (hv:v.cells.toList=cs) (hn:Nat.blt d n=true)
  (k:∀ b,w.heap.size<=b->∀ a w',Kt No w w'->St W M T n ((d,.pointer (some ⟨b,0,none⟩))::G) (.box b cs t::D) F a w'->K a w'):ru P ⟨some d,.box t x,ty,pos,af,g⟩ a w K:=by
 have hr:(execOp a.eval ⟨some d,.box t x,ty,pos,af,g⟩).run P w = .ok (.value (.pointer (some ⟨w.heap.size,0,none⟩))) (w.alloc (.cells cs.toArray t)):=by
  subst hv;simp [execOp,Instr.box,I.ev hx,newVar,newRow]
 exact A7 hr (k w.heap.size (bZ _) _ _ (Kt.alloc _ _) ((I.alloc cs t).put hn _))
theorem Cq {ag:Bool} {z:Nat} (ht:pQ P t=some (ag,z)) {b o:Nat} {cs:Array Value} {bt:TypeId} (hr:w.heap[b]? = some (.cells cs bt (0,0))) (hz:v.cells.toList.length=z) (hl:o+z<=cs.size) (h1:∀ u∈v.cells.toList,u.oneCell'=true) :
  (Instr.storeAt t (.pointer (some ⟨b,o,none⟩)) v).run P w = .ok () (w.setRow b (cs.toList.take o++v.cells.toList++cs.toList.drop (o+z)).toArray):=by
 have h2:=run_storeCells_at (P:=P) b o bt v.cells.toList 0 cs w hr (by omega) h1;simp only [pd,hz] at h2;have h3:v.cells.size=z:=by rw [<- hz]; simp
 simp [Instr.storeAt,Instr.sureAddr,storeVar,pa ht,h3,h2]
theorem ul {x y:Operand} {ag:Bool} {z b o:Nat} {us:bC} {bt:TypeId} (I:St W M T n G D F a w) (hx:ev G x=some (.pointer (some ⟨b,o,none⟩))) (hy:ev G y=some v) (hv:v.cells.toList=us) (ht:pQ P t=some (ag,z)) (i:Nat) (hi:D[i]? = some (.box b cs bt))
  (hz:us.length=z) (hl:Nat.ble (o+z) cs.length=true) (h1:∀ u∈us,u.oneCell'=true)
  (k:∀ w',Kt (fun j=>j=b) w w'->St W M T n G (D.set i (.box b (ov cs o us) bt)) F a w'->K a w'):ru P ⟨none,.store t x y,ty,pos,af,g⟩ a w K:=by
 have hr:w.heap[b]? = some (.cells cs.toArray bt (0,0)):=I.own _ (aK hi);subst hv;have hle:=du hl;have hst:=Cq (P:=P) ht hr hz (by simpa using hle) h1;have hrow:(w.setRow b (cs.take o++v.cells.toList++cs.drop (o+z)).toArray).heap[b]? = some (.cells (cs.take o++v.cells.toList++cs.drop (o+z)).toArray bt (0,0)):=setRow_heap w b cs.toArray _ bt _ hr;have O:Kt (fun j=>cZ.dom (.box b cs bt) j) w (w.setRow b (cs.take o++v.cells.toList++cs.drop (o+z)).toArray):=by
  refine⟨rfl,rfl,rfl,by simp [World.setRow],fun j hj hn=>?_⟩;have hne:b≠j:=fun e=>hn (by simp [cZ.dom,e]);simp [World.setRow,FI,hne]
 refine E0 (w':=w.setRow b (cs.take o++v.cells.toList++cs.drop (o+z)).toArray) (by simp [execOp,I.ev hx,I.ev hy,hst]) (k _ (O.mono fun j hj=>by simp only [cZ.dom,cp] at hj; exact hj.symm) ?_);have:=I.turn hi O (r':=.box b (ov cs o v.cells.toList) bt) (by rw [ov,hz]; exact hrow) (fun j hj=>.inl hj);exact this
theorem E6 {α β:Type} (f:α->Sem β) (g:α->Option β) (w:World) (hf:∀ x y,g x=some y->(f x).run P w = .ok y w):∀ (l:List α) (r:List β),l.mapM g=some r->(l.mapM f).run P w = .ok r w
 | [],r,h=>by simp only [List.mapM_nil,Option.pure_def,cp] at h; subst h; simp
 | x::l,r,h=>by
  simp only [List.mapM_cons,Option.bind_eq_bind,Option.pure_def] at h;cases h1:g x with
  | none=>rw [h1] at h; cases h
  | some y =>
   cases h2:l.mapM g with
   | none=>rw [h1,h2] at h; cases h
   | some ys =>
    rw [h1,h2] at h;simp only [ad,cp] at h;subst h;simp [List.mapM_cons,hf x y h1,E6 f g w hf l ys h2]
theorem St.evp (h:St W M T n G D F a w):∀ {ps:List (Nat×Operand)} {vs:List (Nat×Value)},evp G ps=some vs->ps.map (fun p=>(p.1,a.eval p.2))=vs
 | [],vs,hx=>by simp only [Proofs.YtcpplgcgcbihoaaGreatDoor.evp,cp] at hx; subst hx; rfl
 | (i,x)::r,vs,hx=>by
  simp only [Proofs.YtcpplgcgcbihoaaGreatDoor.evp] at hx;cases h1:Proofs.YtcpplgcgcbihoaaGreatDoor.ev G x with
  | none=>rw [h1] at hx; cases hx
  | some v =>
   cases h2:Proofs.YtcpplgcgcbihoaaGreatDoor.evp G r with
   | none=>rw [h1,h2] at hx; cases hx
   | some us =>
    rw [h1,h2] at hx;simp only [cp] at hx;subst hx;rw [wX,h.ev h1,h.evp h2]
theorem bk {d:Option Nat} {ps:List (Nat×Operand)} {pl:List (Nat×Nat)} {zs ws:bC} {us:List (bC)} {vs:List (Nat×Value)} (I:St W M T n G D F a w) (hp:BW P t=some pl) (hz:gj P t=some zs) (hv:evp G ps=some vs) (hcs:Cs vs us) (hf:CD pl zs vs us=some ws) :
  Ye P ⟨d,.build t ps.toArray,ty,pos,af,g⟩ a E w (.agg ws.toArray) :=
 Ye.of fun w=>by
  unfold BW at hp;split at hp
  ·rename_i fs hu;obtain⟨z,hz1,hz2⟩:=Di hz w;have h1:=E6 (P:=P) (fun f=>do pure (f.offset,<- sizeOf f.type)) (fun f=>(P.info? f.type).map fun i=>(f.offset,i.size)) w (fun x y hy=>by
    cases hi:P.info? x.type with
    | none=>rw [hi] at hy; cases hy
    | some i=>rw [hi] at hy; simp only [mg,cp] at hy; subst hy; simp [sizeOf,typeInfo,hi]) fs.toList pl hp
   have h2:(fs.mapM (m:=Sem) fun f=>do pure (f.offset,<- sizeOf f.type)).run P w = .ok pl.toArray w:=by
    rw [Array.mapM_eq_mapM_toList,Sem.run_map,h1]; rfl
   have h3:=DB (place:=(pl.toArray[·]?)) (pl:=pl) (fun i q hq=>by simpa using hq) vs us zs ws hcs hf;have hzc:z.cells=zs.toArray:=by rw [<- hz1]
   have h4:(ps.toArray.map (fun p=>(p.1,a.eval p.2))).toList=vs:=by rw [<- I.evp hv]; simp
   have h5:(Instr.build t (ps.toArray.map (fun p=>(p.1,a.eval p.2)))).run P w = .ok (.agg ws.toArray) w:=by
    unfold Instr.build;simp only [Sem.run_bind,hz2,Result.andThen_ok,run_underlying hu,h2,hzc,h4,h3,Sem.run_pure]
   simp [execOp] at h5 ⊢;rw [h5]; rfl
  ·cases hp
end
end
section
open Go.RowKit
variable {c:Bool} {d i j k:Nat} {o oi oj:Oper} {r:cZ} {t:Nat} {v:Value} {w0:World} {want:Bool}
section
variable {P:Program} {ops:Array Oper} {Q:Exit->Act->World->Prop} {md:Region.Mode} {E:Nat->Prop}
inductive Tn where
 | any
 | blk (o:Option Nat)
 | new (N:Nat)
 | bks (l:List (Option Nat))
def Et:Tn->Nat->Prop
 | .any,_=>True
 | .blk o,k=>o=some k
 | .new N,k=>N<=k
 | .bks l,k=>some k∈l
def Eo (l:List (Tn)) (k:Nat):Prop:=∃ e∈l,Et e k
def xj (mods:List (Nat×Tn)) (i:Nat):List (Tn):=(mods.filter fun p=>Nat.beq p.1 i).map (·.2)
def MH (mods:List (Nat×Tn)) (i:Nat) (w w':World):Prop:=Kt (Eo (xj mods i)) w w'
def vP (ops:Array Oper) (listed:Array Bool) (i:Nat):Nat->Nat->Bool
 | 0,_=>false
 | n+1,j=>match ops[j]? with
  | some oj=>oj.after.any fun e=>Region.binds .any e&&(Nat.beq e.on i||(!listed.getD e.on true&&vP ops listed i n e.on))
  | none=>true
def AU (ops:Array Oper) (listed:Array Bool) (i j:Nat):Bool:=listed.getD j true||vP ops listed i 5 j
def rem (ops:Array Oper) (mods:List (Nat×Tn)) (listed:Array Bool) (i:Nat):List (Tn):=(mods.filter fun p=>!AU ops listed i p.1).map (·.2)
def sZ (P:Program) (ops:Array Oper) (Q:Exit->Act->World->Prop) (mods:List (Nat×Tn)):Nat->Array Bool->Act->World->Prop
 | 0,listed,a,w=>Region.ready .any ops listed=[]/\Q .normal a w
 | fuel+1,listed,a,w =>
  (Region.ready .any ops listed=[]->Q .normal a w) /\
  ∀ i∈Region.ready .any ops listed,wpOp P ops Q i (fun a' w'=>MH mods i w w'/\sZ P ops Q mods fuel (listed.setIfInBounds i true) a' w') a w
theorem HG {mods:List (Nat×Tn)}:∀ (fuel:Nat) (listed:Array Bool) (a:Act) (w:World),sZ P ops Q mods fuel listed a w->wpAny P .any ops Q fuel listed a w
 | 0,_,_,_,h=>h
 | fuel+1,listed,a,w,h=>⟨h.1,fun i hi=>wpOp_mono (fun a w h=>HG fuel _ a w h.2) (h.2 i hi)⟩
theorem LW {l:Array Bool} (h:l.getD i false=true):l.getD i true=true:=by
 rcases iz i l.size with h' | h'
 ·simp [h'] at h ⊢; exact h
 ·simp [MC h'] at h
theorem Fx {listed:Array Bool} (hj:ops[j]? = some oj) (hall:∀ e∈oj.after,Region.binds .any e=true->listed.getD e.on false=true) (hno:∀ e∈oj.after,Region.binds .any e=true->e.on≠i):∀ n,vP ops listed i n j=false
 | 0=>rfl
 | n+1=>by
  cases h:vP ops listed i (n+1) j with
  | false=>rfl
  | true =>
   unfold vP at h;rw [hj] at h;dsimp only at h;obtain⟨e,he,hb⟩:=MA.1 h;simp only [ri,yD,uZ] at hb;rcases hb.2 with h1 | h1
   ·exact absurd (vU h1) (hno e he hb.1)
   ·rw [LW (hall e he hb.1)] at h1; cases h1.1
theorem Jt {listed:Array Bool} (hj:ops[j]? = some oj) (hun:listed.getD j true=false) (hall:∀ e∈oj.after,Region.binds .any e=true->listed.getD e.on false=true) (hno:∀ e∈oj.after,Region.binds .any e=true->e.on≠i):AU ops listed i j=false:=by
 unfold AU;rw [hun,Fx hj hall hno]; rfl
theorem C5 {listed:Array Bool} (hw:∀ n,vP ops listed i n j=false):∀ n k,vP ops listed i n k=true->vP ops (listed.setIfInBounds j true) i n k=true
 | 0,_,h=>h
 | n+1,k,h=>by
  unfold vP at h ⊢;cases O:ops[k]? with
  | none=>rfl
  | some ok =>
   rw [O] at h;dsimp only at h ⊢;obtain⟨e,he,hb⟩:=MA.1 h;refine MA.2 ⟨e,he,?_⟩;simp only [ri,yD,uZ] at hb ⊢;refine⟨hb.1,?_⟩;rcases hb.2 with h1 | ⟨h1,h2⟩
   ·exact .inl h1
   ·by_cases hej:j=e.on
    ·rw [<- hej,hw n] at h2; cases h2
    ·exact .inr ⟨by rw [getD_set_ne true hej]; exact h1,C5 hw n _ h2⟩
theorem Ic {listed:Array Bool} (hw:∀ n,vP ops listed i n j=false) (h:AU ops (listed.setIfInBounds j true) i k=false):AU ops listed i k=false:=by
 unfold AU at *;rw [Bool.or_eq_false_iff] at h ⊢;refine⟨?_,?_⟩
 ·have h1:=h.1;by_cases hjk:j=k
  ·subst hjk;by_cases hl:j<listed.size
   ·simp [hl] at h1
   ·simp [MC (by omega:listed.size<=j)] at h1
  ·rw [getD_set_ne true hjk] at h1; exact h1
 ·cases h2:vP ops listed i 5 k with
  | false=>rfl
  | true=>rw [C5 hw 5 k h2] at h; cases h.2
def YE (P:Program) (ops:Array Oper) (E:Nat->Prop) (w0:World) (o:Oper) (v:Value) (a:Act):Prop :=
 (Region.wanted o (yielded ops a.tmps)=true/\∀ w,Kt E w0 w->(execOp a.eval o).run P w = .ok (.value v) w) ∨
 (Region.wanted o (yielded ops a.tmps)=false/\v=undef)
theorem YE.wpOp {a:Act} (hi:ops[i]? = some o) (hy:YE P ops E w0 o v a)
  {K:Act->World->Prop} {w:World} (hw0:Kt E w0 w) (h:K (a.put o.dst v) w):wpOp P ops Q i K a w:=by
 unfold Go.wpOp;simp only [hi];rcases hy with⟨hw,hv⟩|⟨hw,rfl⟩
 ·simp only [hw,if_true,Oper.wp,hv w hw0,Oper.upon]; exact .inl h
 ·simp only [hw,HL,if_false]; exact h
theorem YE.of_same {a a':Act} (hy:YE P ops E w0 o v a) (he:execOp a'.eval o=execOp a.eval o)
  (hw:Region.wanted o (yielded ops a'.tmps)=Region.wanted o (yielded ops a.tmps)):YE P ops E w0 o v a':=by
 unfold YE at *;rw [he,hw];exact hy
theorem IP (hj:ops[j]? = some oj) (hap:oi.apart ops oj=true)
  (hsi:∀ cs b,oi.op ≠ .select cs b) (hsj:∀ cs b,oj.op ≠ .select cs b)
  (hQ:∀ c a w,Q (.panic c) (a.put oi.dst v) w->Q (.panic c) a w) {K:Act->World->Prop} {a:Act} {w:World}
  (hy:YE P ops E w0 oi v a) (h:wpOp P ops Q j K (a.put oi.dst v) w) :
  wpOp P ops Q j (fun a' w'=>YE P ops E w0 oi v a'/\K (a'.put oi.dst v) w') a w:=by
 obtain⟨h1,h2,h3⟩:=Oper.apart_spec hap;have keep:∀ (a:Act),YE P ops E w0 oi v a->∀ u,YE P ops E w0 oi v (a.put oj.dst u):=fun a hy u =>
  hy.of_same (execOp_put oi hsi a oj.dst u h3) (wanted_put oi a oj.dst u h3)
 have keepD:∀ d,YE P ops E w0 oi v { a with defers:=d::a.defers }:=fun d=>hy.of_same rfl rfl;unfold wpOp at *;simp only [hj] at *;rw [wanted_put oj a oi.dst v h1] at h;split
 ·rename_i hw;simp only [hw,if_true] at h;rcases h with h | ⟨hasks,hlets⟩
  case inr=>exact .inr ⟨by unfold Oper.asks at *; rw [execOp_put oj hsj a oi.dst v h1] at hasks; exact hasks,hlets⟩
  refine .inl ?_;unfold Oper.wp at *;rw [execOp_put oj hsj a oi.dst v h1] at h;generalize (execOp a.eval oj).run P w=r at *;cases r with
  | ok n w' =>
   cases n <;> simp only [Oper.upon] at h ⊢
   case value u=>exact⟨keep a hy u,by rw [<- Act.put_comm a v u h2]; exact h⟩
   case skip=>exact⟨keep a hy _,by rw [<- Act.put_comm a v undef h2]; exact h⟩
   case defer d =>
    refine⟨keep _ (keepD d) _,?_⟩;rw [<- Act.put_comm _ v undef h2,<- Act.put_defers];exact h
   case enter f args =>
    refine Calls.mono h fun e w'' he=>?_;cases e with
    | returned u=>exact⟨keep a hy u,by rw [<- Act.put_comm a v u h2]; exact he⟩
    | panicked c=>exact hQ _ _ _ he
    | outgrown=>exact he
   case row row args=>exact Rows.mono h fun u w'' he=>⟨keep a hy u,by rw [<- Act.put_comm a v u h2]; exact he⟩
  | halt x w' =>
   cases x <;> simp only [Oper.upon] at h ⊢
   case panic u=>exact hQ _ _ _ h
 ·rename_i hw;simp only [hw] at h;exact⟨keep a hy _,by rw [<- Act.put_comm a v undef h2]; exact h⟩
theorem IN {mods:List (Nat×Tn)} (hi:ops[i]? = some oi) (hsel:∀ (j:Nat) (o:Oper) cs b,ops[j]? = some o->o.op ≠ .select cs b)
  (hQ:∀ c a w,Q (.panic c) (a.put oi.dst v) w->Q (.panic c) a w) :
  ∀ (fuel:Nat) (listed:Array Bool) (a:Act) (w:World),
   (∀ j oj,ops[j]? = some oj->j≠i->listed.getD j true=false->(∀ e∈oj.after,Region.binds .any e=true->e.on≠i)->oi.apart ops oj=true) ->
   i∈Region.ready .any ops listed->(∀ p∈mods,AU ops listed i p.1=false->∀ k,Et p.2 k->E k)->YE P ops E w0 oi v a->Kt E w0 w ->
   sZ P ops Q mods fuel (listed.setIfInBounds i true) (a.put oi.dst v) w->sZ P ops Q mods (fuel+1) listed a w:=by
 intro fuel
 induction fuel with
 | zero =>
  intro listed a w _ hr _ hy hw0 H;refine⟨fun h=>(by rw [h] at hr; cases hr),fun j hj=>?_⟩;by_cases hji:j=i
  ·subst hji; exact hy.wpOp hi hw0 ⟨aj _ _,H⟩
  ·have:=ready_mono hj hji;rw [H.1] at this;cases this
 | succ fuel ih =>
  intro listed a w hfree hr hbef hy hw0 H;refine⟨fun h=>(by rw [h] at hr; cases hr),fun j hj=>?_⟩;by_cases hji:j=i
  ·subst hji; exact hy.wpOp hi hw0 ⟨aj _ _,H⟩
  ·have h1:=H.2 j (ready_mono hj hji);obtain⟨hjun,oj,hoj,hall⟩:=mem_ready.1 hj;have hnot:∀ e∈oj.after,Region.binds .any e=true->e.on≠i:=fun e he hb heq=>by
    have h1:=hall e he hb;have h0:=(mem_ready.1 hr).1;rw [heq] at h1;rcases iz i listed.size with h' | h'
    ·simp [h'] at h0 h1; rw [h0] at h1; cases h1
    ·simp [MC h'] at h1
   have h2:=IP hoj (hfree j oj hoj hji hjun hnot) (fun cs b=>hsel i oi cs b hi) (fun cs b=>hsel j oj cs b hoj) hQ hy h1;have hfree':∀ k ok,ops[k]? = some ok->k≠i->(listed.setIfInBounds j true).getD k true=false ->
     (∀ e∈ok.after,Region.binds .any e=true->e.on≠i)->oi.apart ops ok=true:=fun k ok O hki hun hno=>by
    refine hfree k ok O hki ?_ hno;by_cases hjk:j=k
    ·subst hjk; exact hjun
    ·rw [getD_set_ne true hjk] at hun; exact hun
   refine wpOp_mono (fun a' w' h3=>⟨h3.2.1,ih (listed.setIfInBounds j true) a' w' hfree' (ready_mono hr (Ne.symm hji)) (fun p hp hd=>hbef p hp (Ic (Fx hoj hall hnot) hd)) h3.1 (hw0.trans ?_) ?_⟩) h2
   ·refine Kt.mono h3.2.1 fun k O=>?_;obtain⟨e,he,hek⟩:=O;obtain⟨p,hp,rfl⟩:=jw.1 he;rw [nu] at hp;have hpj:=vU hp.2;exact hbef p hp.1 (by rw [hpj]; exact Jt hoj hjun hall hnot) k hek
   ·rw [Array.setIfInBounds_comm _ _ hji];exact h3.2.2
theorem yC {mods:List (Nat×Tn)} {l:List (Tn)} {fuel:Nat} {listed:Array Bool} {a:Act} {w:World} (hi:ops[i]? = some oi)
  (hs:Region.noSelect ops=true) (hf:Region.free .any ops listed i=true) (hr:(Region.ready .any ops listed).contains i=true) (hb:rem ops mods listed i=l)
  (hQ:∀ c a w,Q (.panic c) (a.put oi.dst v) w->Q (.panic c) a w) (hy:YE P ops (Eo l) w oi v a)
  (h:sZ P ops Q mods fuel (listed.setIfInBounds i true) (a.put oi.dst v) w):sZ P ops Q mods (fuel+1) listed a w :=
 IN hi (Region.noSelect_spec hs) hQ fuel listed a w (Region.free_spec hi hf) (by simpa using hr)
  (fun p hp hd k O=>⟨p.2,by rw [<- hb]; exact jw.2 ⟨p,nu.2 ⟨hp,by rw [hd]; rfl⟩,rfl⟩,O⟩) hy (aj _ _) h
theorem uM {mods:List (Nat×Tn)} {fuel:Nat} {listed:Array Bool} {a:Act} {w:World} (hi:ops[i]? = some oi) (hr:Region.ready .any ops listed=[i]) (hg:oi.guard=none)
  (h:ru P oi a w (fun a' w'=>MH mods i w w'/\sZ P ops Q mods fuel (listed.setIfInBounds i true) a' w')):sZ P ops Q mods (fuel+1) listed a w:=by
 refine⟨fun h=>(by rw [h] at hr; cases hr),fun j hj=>?_⟩;rw [hr,eU] at hj;subst hj;unfold wpOp;rw [hi];simp only;rw [if_pos (by simp [Region.wanted,hg])];exact .inl (h _ _ fun a w h=>h)
theorem dW {mods:List (Nat×Tn)} {W:World} {M T:Nat->Prop} {n:Nat} {G:List (Nat×Value)} {D:List cZ} {F:List cD} {fuel:Nat} {listed:Array Bool} {a:Act} {w:World} (hi:ops[i]? = some oi) (hr:Region.ready .any ops listed=[i]) (I:St W M T n G D F a w) (hg:oi.guard=some (j,want)) (hj:(ops[j]?).bind (·.dst)=some t) (ht:lk G t=some (.bool c)) (hc:c=want)
  (h:ru P oi a w (fun a' w'=>MH mods i w w'/\sZ P ops Q mods fuel (listed.setIfInBounds i true) a' w')):sZ P ops Q mods (fuel+1) listed a w:=by
 refine⟨fun h=>(by rw [h] at hr; cases hr),fun k O=>?_⟩;rw [hr,eU] at O;subst O;unfold wpOp;rw [hi];simp only;rw [if_pos (by rw [rV I hg hj ht,hc]; simp)];exact .inl (h _ _ fun a w h=>h)
theorem eG {mods:List (Nat×Tn)} {fuel:Nat} {listed:Array Bool} {a:Act} {w:World} (hi:ops[i]? = some oi) (hj:ops[j]? = some oj) (hr:Region.ready .any ops listed=[i,j]) (hg:oi.guard=none) (hg2:oj.guard=none)
  (h:ru P oi a w (fun a' w'=>MH mods i w w'/\sZ P ops Q mods fuel (listed.setIfInBounds i true) a' w'))
  (h2:ru P oj a w (fun a' w'=>MH mods j w w'/\sZ P ops Q mods fuel (listed.setIfInBounds j true) a' w')):sZ P ops Q mods (fuel+1) listed a w:=by
 refine⟨fun h=>(by rw [h] at hr; cases hr),fun k O=>?_⟩;rw [hr] at O;simp only [dC,iJ,or_false] at O;rcases O with rfl | rfl
 ·unfold wpOp;rw [hi];simp only;rw [if_pos (by simp [Region.wanted,hg])];exact .inl (h _ _ fun a w h=>h)
 ·unfold wpOp;rw [hj];simp only;rw [if_pos (by simp [Region.wanted,hg2])];exact .inl (h2 _ _ fun a w h=>h)
theorem Fy {mods:List (Nat×Tn)} {listed:Array Bool} {a:Act} {w:World} (hr:Region.ready .any ops listed=[]) (h:Q .normal a w):∀ fuel,sZ P ops Q mods fuel listed a w
 | 0=>⟨hr,h⟩
 | _+1=>⟨fun _=>h,fun i hi=>by rw [hr] at hi; cases hi⟩
theorem gO {mods:List (Nat×Tn)} {w w':World} (h:Kt No w w'):MH mods i w w':=h.no
theorem kU {mods:List (Nat×Tn)} {w w':World} {e:Tn} {E:Nat->Prop} (hm:xj mods i=[e]) (h:Kt E w w') (he:∀ k,E k->Et e k):MH mods i w w' :=
 h.mono fun k O=>⟨e,by rw [hm]; exact eU.2 rfl,he k O⟩
theorem sR {E:Nat->Prop}:∀ k,E k->Et .any k:=fun _ _=>trivial
theorem jD {b:Nat}:∀ k,k=b->Et (.blk (some b)) k:=fun _ h=>congrArg some h.symm
theorem kI:∀ k,v.ownBlock=some k->Et (.blk v.ownBlock) k:=fun _ h=>h
theorem qr {b N:Nat} (h:N<=b):∀ k,Et (.blk (some b)) k->Et (.new N) k:=fun k O=>by
 have O:some b=some k:=O;injection O with O;subst O; exact h
def Sz (mods:List (Nat×Tn)) (i:Nat) (e:Tn):List (Nat×Tn):=mods.map fun p=>if Nat.beq p.1 i then (i,e) else p
theorem HH {mods mods':List (Nat×Tn)} (h:∀ i k,Eo (xj mods' i) k->Eo (xj mods i) k):∀ (fuel:Nat) (listed:Array Bool) (a:Act) (w:World),sZ P ops Q mods' fuel listed a w->sZ P ops Q mods fuel listed a w
 | 0,_,_,_,H=>H
 | fuel+1,_,_,_,H=>⟨H.1,fun i hi=>wpOp_mono (fun a w h1=>⟨h1.1.mono (h i),HH h fuel _ a w h1.2⟩) (H.2 i hi)⟩
theorem ek {mods:List (Nat×Tn)} {fuel:Nat} {listed:Array Bool} {a:Act} {w:World} (i:Nat) (e e0:Tn) (hm:xj mods i=[e0]) (hs:∀ k,Et e k->Et e0 k) (H:sZ P ops Q (Sz mods i e) fuel listed a w):sZ P ops Q mods fuel listed a w:=by
 refine HH (fun j k O=>?_) _ _ _ _ H;obtain⟨x,hx,hxk⟩:=O;unfold xj at hx;obtain⟨p,hp,rfl⟩:=jw.1 hx;rw [nu] at hp;obtain⟨hp1,hp2⟩:=hp;unfold Sz at hp1;obtain⟨q,hq,rfl⟩:=jw.1 hp1;by_cases hqi:Nat.beq q.1 i=true
 ·rw [if_pos hqi] at hp2 hxk;have hij:i=j:=vU hp2;subst hij;exact⟨e0,by rw [hm]; exact eU.2 rfl,hs k hxk⟩
 ·rw [if_neg hqi] at hp2 hxk;exact⟨q.2,jw.2 ⟨q,nu.2 ⟨hq,hp2⟩,rfl⟩,hxk⟩
theorem Fz {id:Nat} {a:Act} {w:World} (mods:List (Nat×Tn)) (hm:P.follows .mixedOrders=true) (h:sZ P ops Q mods ops.size (Array.replicate ops.size false) a w.drew):(Code.region id ops true).wp P Q a w :=
 wp_region_any hm (HG _ _ _ _ h)
end
section
variable {P:Program} {W:World} {M T E:Nat->Prop} {n:Nat} {G G':List (Nat×Value)} {D D':List cZ} {F F':List cD} {a:Act} {w w':World} {ops:Array Oper} {Q:Exit->Act->World->Prop} {fuel:Nat} {listed:Array Bool} {mods:List (Nat×Tn)}
def Qp (Q:Exit->Act->World->Prop):Prop:=∀ c a d v w,Q (.panic c) (a.put d v) w->Q (.panic c) a w
theorem Nf {id:Nat} {l:List Oper} {N:Nat} (mods:List (Nat×Tn)) (I:St W M T n G D F a w) (hm:P.follows .mixedOrders=true) (hN:l.length=N) (hQ:Qp Q) (h:∀ w,Qp Q->St W M T n G D F a w->sZ P l.toArray Q mods N (Array.replicate N false) a w):(Code.region id l.toArray true).wp P Q a w:=by
 refine Fz mods hm ?_;rw [Ed,hN];exact h _ hQ (I.later (Kt.drew w))
theorem dy {l:List (Tn)} (i:Nat) (hi:ops[i]? = some o) (hs:Region.noSelect ops=true) (hf:Region.free .any ops listed i=true) (hr:(Region.ready .any ops listed).contains i=true) (hb:rem ops mods listed i=l) (hQ:Qp Q) (I:St W M T n G D F a w) (h:Ye P o a (Eo l) w v) (hg:o.guard=none) (hd:o.dst=some d) (hn:Nat.blt d n=true)
  (k:∀ a,St W M T n ((d,v)::G) D F a w->sZ P ops Q mods fuel (listed.setIfInBounds i true) a w):sZ P ops Q mods (fuel+1) listed a w :=
 yC hi hs hf hr hb (fun c a w=>hQ c a _ _ w) (.inl ⟨by simp [Region.wanted,hg],h⟩) (by rw [hd]; exact k _ (I.put hn v))
theorem So {l:List (Tn)} (i:Nat) (hi:ops[i]? = some o) (hs:Region.noSelect ops=true) (hf:Region.free .any ops listed i=true) (hr:(Region.ready .any ops listed).contains i=true) (hb:rem ops mods listed i=l) (hQ:Qp Q) (I:St W M T n G D F a w) (h:Ye P o a (Eo l) w v) (hg:o.guard=some (j,want)) (hj:(ops[j]?).bind (·.dst)=some t) (ht:lk G t=some (.bool c)) (hc:c=want) (hd:o.dst=some d) (hn:Nat.blt d n=true)
  (k:∀ a,St W M T n ((d,v)::G) D F a w->sZ P ops Q mods fuel (listed.setIfInBounds i true) a w):sZ P ops Q mods (fuel+1) listed a w :=
 yC hi hs hf hr hb (fun c a w=>hQ c a _ _ w) (.inl ⟨by rw [rV I hg hj ht,hc]; simp,h⟩) (by rw [hd]; exact k _ (I.put hn v))
theorem SF (i:Nat) (hi:ops[i]? = some o) (hs:Region.noSelect ops=true) (hf:Region.free .any ops listed i=true) (hr:(Region.ready .any ops listed).contains i=true) (hQ:Qp Q) (I:St W M T n G D F a w) (hg:o.guard=some (j,want)) (hj:(ops[j]?).bind (·.dst)=some t) (ht:lk G t=some (.bool c)) (hc:c = !want) (hd:o.dst=some d) (hn:Nat.blt d n=true)
  (k:∀ a,St W M T n ((d,undef)::G) D F a w->sZ P ops Q mods fuel (listed.setIfInBounds i true) a w):sZ P ops Q mods (fuel+1) listed a w :=
 yC (v:=undef) hi hs hf hr rfl (fun c a w=>hQ c a _ _ w) (.inr ⟨by rw [rV I hg hj ht,hc]; cases want <;> simp,rfl⟩) (by rw [hd]; exact k _ (I.put hn undef))
theorem RX (i:Nat) (hi:ops[i]? = some o) (hs:Region.noSelect ops=true) (hf:Region.free .any ops listed i=true) (hr:(Region.ready .any ops listed).contains i=true) (hQ:Qp Q) (I:St W M T n G D F a w) (hg:o.guard=some (j,want)) (hj:(ops[j]?).bind (·.dst)=some t) (ht:lk G t=some undef) (hd:o.dst=some d) (hn:Nat.blt d n=true)
  (k:∀ a,St W M T n ((d,undef)::G) D F a w->sZ P ops Q mods fuel (listed.setIfInBounds i true) a w):sZ P ops Q mods (fuel+1) listed a w :=
 yC (v:=undef) hi hs hf hr rfl (fun c a w=>hQ c a _ _ w) (.inr ⟨by
  have h1:=I.slots t _ ht;unfold Region.wanted yielded;rw [hg];simp only [hj,ad,h1];rfl,rfl⟩) (by rw [hd]; exact k _ (I.put hn undef))
theorem bU:¬ Eo [] k:=fun ⟨_,h,_⟩=>by cases h
theorem G4 {e:Tn} {l:List Tn} (h1:¬ Et e k) (h:¬ Eo l k):¬ Eo (e::l) k:=fun ⟨e,he,O⟩=>by
 rcases dC.1 he with rfl | he
 ·exact h1 O
 ·exact h ⟨e,he,O⟩
theorem iX {l:List Tn} {o:Option Nat} {r':cZ} (I:St W M T n G D F a w) (i:Nat) (hi:D[i]? = some r) (hr:r.dom k) (j:Nat) (hj:D[j]? = some r') (hd:r'.dom=fun k=>o=some k) (hij:i≠j) (h:¬ Eo l k):¬ Eo (.blk o::l) k:=G4 (fun O=>by
 have O:o=some k:=O;obtain⟨l1,e1⟩:=cm.1 hi;obtain⟨l2,e2⟩:=cm.1 hj;rcases xD hij with hlt | hlt
 ·exact fJ.1 I.apart i j l1 l2 hlt k (by rw [e1]; exact hr) (by rw [e2,hd]; exact O)
 ·exact fJ.1 I.apart j i l2 l1 hlt k (by rw [e2,hd]; exact O) (by rw [e1]; exact hr)) h
def Lt:cZ->Option Nat
 | .box b _ _=>some b
 | .own v _ _ _=>v.ownBlock
 | .obj b _=>some b
 | .grp _=>none
def Nl:cZ->Bool
 | .grp _=>false
 | _=>true
theorem I2 (h:Nl r=true) (O:r.dom k):Lt r=some k:=by cases r <;> first | exact O | cases h
theorem EN (h:Lt r=some k):r.dom k:=by cases r <;> first | exact h | cases h
theorem EO {D0:List cZ} {l:List (Option Nat)} (h:D0.map Lt=l) (hg:D0.all Nl=true):∀ k,(∃ r∈D0,r.dom k)->Et (.bks l) k:=fun k ⟨r,hr,O⟩=>by
 subst h;exact jw.2 ⟨r,hr,I2 (List.all_eq_true.1 hg r hr) O⟩
theorem yR {l:List (Option Nat)}:∀ k,(∃ r∈([]:List cZ),r.dom k)->Et (.bks l) k:=fun k ⟨r,hr,_⟩=>by cases hr
theorem AW {l:List Tn} {bs:List (Option Nat)} (I:St W M T n G D F a w) (i:Nat) (hi:D[i]? = some r) (hr:r.dom k) (js:List Nat) (hl:(js.map fun j=>(D[j]?).bind Lt)=bs) (hn:js.contains i=false) (h:¬ Eo l k):¬ Eo (.bks bs::l) k:=G4 (fun O=>by
 subst hl;obtain⟨j,hj,e⟩:=jw.1 (show some k∈_ from O);obtain⟨r',h1,h2⟩:=Option.bind_eq_some_iff.1 e;have hij:i≠j:=fun e=>by subst e; rw [List.contains_eq_mem,decide_eq_false_iff_not] at hn; exact hn hj
 obtain⟨l1,e1⟩:=cm.1 hi;obtain⟨l2,e2⟩:=cm.1 h1;rcases xD hij with hlt | hlt
 ·exact fJ.1 I.apart i j l1 l2 hlt k (by rw [e1]; exact hr) (by rw [e2]; exact EN h2)
 ·exact fJ.1 I.apart j i l2 l1 hlt k (by rw [e2]; exact EN h2) (by rw [e1]; exact hr)) h
theorem DA:∀ k,Eo [] k->dT T D k∨w.heap.size<=k:=fun _ ⟨_,h,_⟩=>by cases h
theorem LS {e:Tn} {l:List Tn} (h1:∀ k,Et e k->dT T D k∨w.heap.size<=k) (h:∀ k,Eo l k->dT T D k∨w.heap.size<=k):∀ k,Eo (e::l) k->dT T D k∨w.heap.size<=k:=fun k ⟨e,he,O⟩=>by
 rcases dC.1 he with rfl | he
 ·exact h1 k O
 ·exact h k ⟨e,he,O⟩
theorem Jv {l:List Tn} {o:Option Nat} {r':cZ} (j:Nat) (hj:D[j]? = some r') (hd:r'.dom=fun k=>o=some k) (h:∀ k,Eo l k->dT T D k∨w.heap.size<=k):∀ k,Eo (.blk o::l) k->dT T D k∨w.heap.size<=k:=LS (fun k O=>.inl (.inr ⟨r',aK hj,by rw [hd]; exact O⟩)) h
def IQ (N:Nat):cD:=⟨fun _ w=>N<=w.heap.size,fun h k _=>cI h k.size⟩
end
end
section
open Go.RowKit
variable {R S:Type} {ag:Bool} {args:Array Operand} {b:Bool} {d:Nat} {e:TypeId} {f:Nat} {i:Int} {α:Type} {r:α} {s:S} {t ty:TypeId} {tys:Array TypeId} {v:Value} {vs:bC} {x y:α}
variable {pos:String} {af:Array Edge} {g:Option (Nat×Bool)}
def tY (xs:List α) (lo hi:Int):Option (List α):=if 0<=lo/\lo<=hi/\hi<=xs.length then some ((xs.take hi.toNat).drop lo.toNat) else none
def kz (s:ByteArray) (lo hi:Int):Option ByteArray:=if 0<=lo/\lo<=hi/\hi<=s.size then some (s.extract lo.toNat hi.toNat) else none
def bW (n:Nat):Bool:=Nat.ble n 4294967296
theorem Fk {n:Nat} (h:bW n=true):n<=4294967296:=du h
def gd (b:Bool) (x:Option α):Option α:=cond b x none
theorem aU {x:Option α} (h:gd b x=some y):b=true/\x=some y:=by cases b with
 | true=>exact⟨rfl,h⟩
 | false=>cases h
theorem bd {β:Type} {o:Option α} {k:α->Option β} {y:β} (h:o.bind k=some y):∃ u,o=some u/\k u=some y:=Option.bind_eq_some_iff.1 h
theorem ct (hb:b=true) (h:cond b x y=r):x=r:=by subst hb; exact h
theorem cf (hb:b=false) (h:cond b x y=r):y=r:=by subst hb; exact h
theorem on:∀ u∈([]:bC),u.oneCell'=true:=fun u hu=>by cases hu
theorem oc {l:bC} (h:v.oneCell'=true) (k:∀ u∈l,u.oneCell'=true):∀ u∈v::l,u.oneCell'=true:=fun u hu=>by
 rcases dC.1 hu with rfl | hu
 ·exact h
 ·exact k u hu
inductive Fl (S R:Type) where
 | go (s:S)
 | out (r:R)
def A2 (body:S->Option (Fl S R)):Nat->S->Option R
 | 0,_=>none
 | n+1,s=>match body s with
  | none=>none
  | some (.out r)=>some r
  | some (.go s')=>A2 body n s'
theorem EX {body:S->Option (Fl S R)}:∀ {n m:Nat} {s:S} {r q:R},A2 body n s=some r->A2 body m s=some q->r=q
 | 0,_,_,_,_,h,_=>by cases h
 | _,0,_,_,_,_,h=>by cases h
 | n+1,m+1,s,r,q,h,k=>by
  simp only [A2] at h k;cases hb:body s with
  | none=>rw [hb] at h; cases h
  | some f =>
   rw [hb] at h k;cases f with
   | out u=>simp only [cp] at h k; rw [<- h,<- k]
   | go u=>exact EX h k
open Classical in
noncomputable def loop (body:S->Option (Fl S R)) (s:S):Option R:=if h:∃ r n,A2 body n s=some r then some h.choose else none
theorem x8 {body:S->Option (Fl S R)} {r:R}:loop body s=some r↔∃ n,A2 body n s=some r:=by
 unfold loop;split
 ·rename_i h;obtain⟨n,hn⟩:=h.choose_spec;constructor
  ·intro e; simp only [cp] at e; rw [<- e]; exact⟨n,hn⟩
  ·rintro⟨m,hm⟩; rw [EX hn hm]
 ·rename_i h;constructor
  ·intro e; cases e
  ·rintro⟨m,hm⟩; exact absurd ⟨r,m,hm⟩ h
theorem x6 {body:S->Option (Fl S R)} {s':S} (h:body s=some (.go s')):loop body s=loop body s':=by
 apply Option.ext;intro r;rw [x8,x8];constructor
 ·rintro⟨n,hn⟩;cases n with
  | zero=>cases hn
  | succ n=>simp only [A2,h] at hn; exact⟨n,hn⟩
 ·rintro⟨n,hn⟩; exact⟨n+1,by simp only [A2,h]; exact hn⟩
theorem oF {body:S->Option (Fl S R)} {r:R} (h:body s=some (.out r)):loop body s=some r:=x8.2 ⟨1,by simp only [A2,h]⟩
section
variable {P:Program} {W:World} {M T E:Nat->Prop} {n:Nat} {G G':List (Nat×Value)} {D D':List cZ} {F F':List cD} {a:Act} {w w':World} {K:Act->World->Prop} {Q:Exit->Act->World->Prop}
theorem bF {c:Code} (body:S->Option (Fl S R)) (I:S->Act->World->Prop) {s0:S} {r:R} (hl:loop body s0=some r) (h0:I s0 a w)
  (round:∀ s a w f,I s a w->body s=some f->(∀ u,f = .out u->u=r)->c.wp P (Exit.then (fun a' w'=>∃ s',f = .go s'/\I s' a' w') Q) a w):(Code.loop c).wp P Q a w:=by
 obtain⟨N,hN⟩:=x8.1 hl;intro b k cs;have key:∀ N s a w,A2 body N s=some r->I s a w->∃ e a' w',Q e a' w'/\Arrives P (lone (b.at a (.code c :: .inLoop c::k)) cs w) b k cs e a' w':=by
  intro N
  induction N with
  | zero=>intro s a w h; cases h
  | succ N ih =>
   intro s a w h hI;simp only [A2] at h;cases hb:body s with
   | none=>rw [hb] at h; cases h
   | some f =>
    rw [hb] at h;obtain⟨e,a₁,w₁,hq,harr⟩:=round s a w f hI hb (fun u hu=>by subst hu; simp only [cp] at h; exact h) b (.inLoop c::k) cs;cases e with
    | normal =>
     obtain⟨s',hf,hI'⟩:=hq;subst hf;obtain⟨e₂,a₂,w₂,hq₂,harr₂⟩:=ih s' a₁ w₁ h hI';exact⟨e₂,a₂,w₂,hq₂,.of_steps (Steps.trans harr (.one step_inLoop)) harr₂⟩
    | exit id=>exact⟨_,a₁,w₁,hq,.pass (x:=.inLoop c) rfl (fun _ _=>.inl (by simp)) harr⟩
    | goto l=>exact⟨_,a₁,w₁,hq,.pass (x:=.inLoop c) rfl (fun _ _=>.inl (by simp)) harr⟩
    | ret=>exact⟨_,a₁,w₁,hq,.pass (x:=.inLoop c) rfl (fun _ _=>.inl (by simp)) harr⟩
    | panic ch=>exact⟨_,a₁,w₁,hq,.pass (x:=.inLoop c) rfl (fun _ _=>.inl (by simp)) harr⟩
    | outgrown=>exact⟨_,a₁,w₁,hq,.pass (x:=.inLoop c) rfl (fun _ _=>.inl (by simp)) harr⟩
 obtain⟨e,a',w',hq,harr⟩:=key N s0 a w hN h0;exact⟨e,a',w',hq,.of_steps (.one step_loop) harr⟩
theorem aM {x y:Code} (J:Act->World->Prop) (h1:x.wp P (Exit.then J Q) a w) (h2:∀ a w,J a w->y.wp P Q a w):(Code.seq x y).wp P Q a w :=
 wp_seq (wp_mono h1 fun e a w h=>by cases e <;> first | exact h2 a w h | exact h)
theorem Sm {c:Operand} {x y:Code} (I:St W M T n G D F a w) (hc:ev G c=some (.bool b)) (hb:b=true) (h:x.wp P Q a w):(Code.cond c x y).wp P Q a w:=wp_cond_true (by rw [I.ev hc,hb]) h
theorem Rb {c:Operand} {x y:Code} (I:St W M T n G D F a w) (hc:ev G c=some (.bool b)) (hb:b=false) (h:y.wp P Q a w):(Code.cond c x y).wp P Q a w:=wp_cond_false (by rw [I.ev hc,hb]) h
theorem Gp {id:Nat} {l:List Oper} (h:wpList P l.toArray Q l a w):(Code.region id l.toArray false).wp P Q a w:=wp_region_lit h
def wG (P:Program) (a:Act) (w:World):List ResultVar->bC->Prop
 | [],[]=>True
 | .tmp t::r,v::vs=>a.tmps.getD t undef=v/\wG P a w r vs
 | .cell c t::r,v::vs=>(∃ p,a.tmps.getD c undef = .pointer (some p)/\(loadVar t p).run P w = .ok v w)/\wG P a w r vs
 | _,_=>False
def Or:bC->Value
 | [v]=>v
 | vs=>.tuple vs.toArray
def KE (tmps:Array Value):ResultVar->Sem Value
 | .tmp t=>pure (tmps.getD t undef)
 | .cell c t=>do loadVar t (<- asAddr (tmps.getD c undef))
theorem D6:∀ {rs:List ResultVar} {vs:bC},wG P a w rs vs->(rs.mapM (KE a.tmps)).run P w = .ok vs w
 | [],[],_=>by simp
 | [],v::vs,h=>h.elim
 | .tmp t::r,[],h=>h.elim
 | .cell c t::r,[],h=>h.elim
 | .tmp t::r,v::vs,h=>by
  obtain⟨h1,h2⟩:=h;have U:(KE a.tmps (.tmp t)).run P w = .ok v w:=by
   show (pure (a.tmps.getD t undef):Sem Value).run P w=_;rw [h1]; rfl
  rw [List.mapM_cons,Sem.run_bind,U,Result.andThen_ok,Sem.run_bind,D6 h2]; rfl
 | .cell c t::r,v::vs,h=>by
  obtain⟨⟨p,h0,h1⟩,h2⟩:=h;have U:(KE a.tmps (.cell c t)).run P w = .ok v w:=by
   unfold KE;simp only;have:(asAddr (a.tmps.getD c undef)).run P w = .ok p w:=by rw [h0]; rfl
   rw [Sem.run_bind,this,Result.andThen_ok,h1]
  rw [List.mapM_cons,Sem.run_bind,U,Result.andThen_ok,Sem.run_bind,D6 h2]; rfl
theorem Gr (fn:Func) (tmps:Array Value):results fn tmps=(do
  let vs <- fn.results.mapM (KE tmps)
  pure (if h:vs.size=1 then vs[0] else .tuple vs)):=rfl
theorem aE {fn:Func} {R:Value->World->Prop} {rs:List ResultVar} (I:St W M T n G D F a w) (hr:fn.results=rs.toArray) (h:wG P a w rs vs) (C:R (Or vs) w):bodyPost P fn (OZ M W R) .ret a w:=by
 refine⟨I.defers,Or vs,?_,Or vs,rfl,I.base,C⟩;have h1:=D6 h;rw [Gr,hr,Array.mapM_eq_mapM_toList,Sem.run_bind,Sem.run_map,h1];cases vs with
 | nil=>rfl
 | cons v r =>
  cases r with
  | nil=>rfl
  | cons u s =>
   show Sem.run P (pure (if h:(u::s).length+1=1 then _ else _)) w=_;rw [dif_neg (by simp)];rfl
theorem aC:wG P a w [] []:=trivial
theorem ap {t:Nat} {r:List ResultVar} (I:St W M T n G D F a w) (hv:lk G t=some v) (h:wG P a w r vs):wG P a w (.tmp t::r) (v::vs) :=
 ⟨by have:=I.slots t v hv; simp [OM,this],h⟩
theorem bu {c:Nat} {b:Nat} {cs:bC} {bt:TypeId} {z:Nat} {r:List ResultVar} (I:St W M T n G D F a w) (hv:lk G c=some (.pointer (some ⟨b,0,none⟩))) (i:Nat) (hi:D[i]? = some (.box b cs bt)) (ht:pQ P t=some (ag,z)) (hl:cs.length=z) (hz:ag=false->z=1) (h:wG P a w r vs):wG P a w (.cell c t::r) (bB ag cs::vs):=by
 have hr:w.heap[b]? = some (.cells cs.toArray bt (0,0)):=I.own _ (aK hi);refine⟨⟨⟨b,0,none⟩,by have:=I.slots c _ hv; simp [OM,this],?_⟩,h⟩;exact C1 ht hl rfl hz w (fun j u hj=>by rw [cell_of_row _ _ _ _ _ _ hr,List.getElem?_toArray,n4]; exact hj)
theorem St.adds (h:St W M T n G D F a w) (k:Kt No w w'):∀ (rs:List cZ),(∀ r∈rs,r.ok w'/\∀ k,r.dom k->w.heap.size<=k)->(rs.Pairwise fun r s=>∀ k,r.dom k->¬ s.dom k)->St W M T n G (rs++D) F a w'
 | [],_,_=>h.later k
 | r::rs,hr,hp=>by
  obtain⟨hp1,hp2⟩:=uP.1 hp;have ih:=St.adds h k rs (fun s hs=>hr s (wY _ hs)) hp2;obtain⟨q1,q2⟩:=hr r vX;refine⟨ih.size,ih.defers,ih.slots,ih.base,?_,?_,?_,fun f hf=>f.keep (h.facts f hf) k.no (fun j hj=>?_),ih.tlt⟩
  ·intro s hs;rcases dC.1 hs with rfl | hs
   ·exact q1
   ·exact ih.own s hs
  ·intro s hs j hj;rcases dC.1 hs with rfl | hs
   ·have:=q2 j hj;refine⟨fun ht=>?_,.inr ?_⟩
    ·have:=h.tlt j ht; omega
    ·have:=h.base.size; omega
   ·exact ih.free s hs j hj
  ·refine uP.2 ⟨fun s hs j hj hj2=>?_,ih.apart⟩;rcases de.1 hs with hs | hs
   ·exact hp1 s hs j hj hj2
   ·have:=q2 j hj;have:=cZ.lt (h.own s hs) j hj2;omega
  ·rcases hj with hj | ⟨s,hs,hj⟩
   ·exact .inl (.inl hj)
   ·rcases dC.1 hs with rfl | hs
    ·exact .inr (q2 j hj)
    ·rcases de.1 hs with hs | hs
     ·exact .inr ((hr s (wY _ hs)).2 j hj)
     ·exact .inl (.inr ⟨s,hs,hj⟩)
theorem kD {w0:World} {r:cZ} (h:r.ok w') (hf:∀ k,r.dom k->w0.heap.size<=k):∀ s∈[r],s.ok w'/\∀ k,s.dom k->w0.heap.size<=k:=fun s hs=>by
 rw [eU] at hs; subst hs; exact⟨h,hf⟩
theorem O1 {w0:World} {r s:cZ} (h:r.ok w') (hf:∀ k,r.dom k->w0.heap.size<=k) (h2:s.ok w') (hf2:∀ k,s.dom k->w0.heap.size<=k):∀ q∈[r,s],q.ok w'/\∀ k,q.dom k->w0.heap.size<=k:=fun q hq=>by
 simp only [dC,iJ,or_false] at hq;rcases hq with rfl | rfl
 ·exact⟨h,hf⟩
 ·exact⟨h2,hf2⟩
theorem Af (r:cZ):[r].Pairwise fun r s=>∀ k,r.dom k->¬ s.dom k:=List.pairwise_singleton _ _
theorem SJ {r s:cZ} (h:∀ k,r.dom k->¬ s.dom k):[r,s].Pairwise fun r s=>∀ k,r.dom k->¬ s.dom k:=by
 simp only [uP,eU,forall_eq,iJ,false_implies,implies_true,rn,and_true];exact h
theorem rh {T:Nat->Prop} {D rs:List cZ} (w:World):Nw (dT (dT T D) rs) (dT T (rs++D)) w:=fun k O=>.inl (by
 rcases O with O | ⟨r,hr,O⟩
 ·exact .inl (.inl O)
 ·rcases de.1 hr with hr | hr
  ·exact .inr ⟨r,hr,O⟩
  ·exact .inl (.inr ⟨r,hr,O⟩))
def Es (F:List cD):List cD->Prop
 | []=>True
 | f::r=>(∃ i:Nat,F[i]? = some f)/\Es F r
theorem Es.mem {F:List cD}:∀ {F':List cD},Es F F'->∀ f∈F',f∈F
 | [],_,f,hf=>by cases hf
 | g::r,h,f,hf=>by
  rcases dC.1 hf with rfl | hf
  ·obtain⟨⟨i,hi⟩,_⟩:=h; exact aK hi
  ·exact Es.mem h.2 f hf
def ou (D:List cZ):List Nat->List cZ->Prop
 | [],[]=>True
 | i::r,d::s=>D[i]? = some d/\ou D r s
 | _,_=>False
theorem ou.get {D:List cZ}:∀ {is:List Nat} {D':List cZ},ou D is D'->∀ d∈D',∃ i∈is,D[i]? = some d
 | [],[],_,d,hd=>by cases hd
 | [],_::_,h,_,_=>h.elim
 | _::_,[],h,_,_=>h.elim
 | i::r,e::s,h,d,hd=>by
  rcases dC.1 hd with rfl | hd
  ·exact⟨i,vX,h.1⟩
  ·obtain⟨j,hj,h2⟩:=ou.get h.2 d hd; exact⟨j,wY _ hj,h2⟩
theorem ou.pw {D:List cZ} (hp:D.Pairwise fun r s=>∀ k,r.dom k->¬ s.dom k):∀ {is:List Nat} {D':List cZ},ou D is D'->is.Nodup->D'.Pairwise fun r s=>∀ k,r.dom k->¬ s.dom k
 | [],[],_,_=>rn
 | [],_::_,h,_=>h.elim
 | _::_,[],h,_=>h.elim
 | i::r,e::s,h,hn=>by
  obtain⟨n1,n2⟩:=Dh.1 hn;refine uP.2 ⟨fun d hd k O hk2=>?_,ou.pw hp h.2 n2⟩;obtain⟨j,hj,h2⟩:=ou.get h.2 d hd;have hij:i≠j:=fun e=>n1 (e▸hj);obtain⟨l1,e1⟩:=cm.1 h.1;obtain⟨l2,e2⟩:=cm.1 h2;rcases xD hij with hlt | hlt
  ·exact fJ.1 hp i j l1 l2 hlt k (by rw [e1]; exact O) (by rw [e2]; exact hk2)
  ·exact fJ.1 hp j i l2 l1 hlt k (by rw [e2]; exact hk2) (by rw [e1]; exact O)
theorem St.meet (h:St W M T n G D F a w) (is:List Nat) (hn:is.Nodup) (hG:MI G G') (hD:ou D is D') (hF:Es F F'):St W M T n G' D' F' a w :=
 ((h.slot hG).sel hF.mem).res (fun r hr=>by obtain⟨i,_,hi⟩:=hD.get r hr; exact aK hi) (hD.pw h.apart hn)
theorem nt (h:b=true):(!b)=false:=by rw [h]; rfl
theorem nf (h:b=false):(!b)=true:=by rw [h]; rfl
def Fl.el (f:Fl S R) (g:S->α) (h:R->α):α:=match f with
 | .go s=>g s
 | .out r=>h r
theorem P6 {g:S->α} {h:R->α} (e:Fl.el (.go s) g h=r):g s=r:=e
theorem ly {s:R} {g:S->α} {h:R->α} (e:Fl.el (.out s) g h=r):h s=r:=e
def aP (P:Program) (f:Nat):Bool:=match P.funcs[f]? with
 | some fn => !(fn.name == "runtime.NumGoroutine") && fn.body.isSome
 | none=>false
theorem Ey (hf:aP P f=true) (args:Array Value) (w:World):(callFunc f args).run P w = .ok (.enter f args) w:=by
 unfold aP at hf;split at hf
 ·rename_i fn hfn;simp only [ri, uZ] at hf;obtain⟨b, hb⟩ := Option.isSome_iff_exists.1 hf.2;have h1 : ¬ (fn.name == "runtime.NumGoroutine") = true := by rw [hf.1]; simp
  simp [callFunc,hfn,hb,h1];simpa using h1
 ·cases hf
theorem we {o:Oper} {x:Operand} {cap:bC} {R:Value->World->Prop} {M':Nat->Prop} (ho:o.op = .call { callee:=.value x,args:=args,argTypes:=tys }) (I:St W M T n G D F a w) (hx:ev G x=some (.func (.func f) #[] cap.toArray)) (hf:aP P f=true) (hargs:evs G args.toList=some vs) (hc:bc P M' f (vs++cap) w R)
  (k:∀ v w',Kt M' w w'->R v w'->K (a.put o.dst v) w'):ru P o a w K:=fun K' Q hK=>by
 have h1:(args.map a.eval)=vs.toArray:=by
  apply FN.1;rw [HI,I.evs hargs]
 have hr:(execOp a.eval o).run P w = .ok (.enter f (vs++cap).toArray) w:=by
  simp [execOp,ho,resolve,I.ev hx,Deferred.ofValue,invoke,h1,Ey hf]
 unfold Oper.wp;rw [hr,Oper.upon_enter];exact Calls.mono hc fun e w' ⟨v,h1,h2,h3⟩=>by subst h1; exact hK _ _ (k v w' h2 h3)
theorem bL {R:Value->World->Prop} (I:St W M T n G D F a w) (hf:aP P f=true) (hargs:evs G args.toList=some vs) (hn:Nat.blt d n=true) (hc:bc P No f vs w R)
  (k:∀ v w',R v w'->∀ a,Kt No w w'->(∀ rs:List cZ,(∀ r∈rs,r.ok w'/\∀ k,r.dom k->w.heap.size<=k)->(rs.Pairwise fun r s=>∀ k,r.dom k->¬ s.dom k)->St W M T n ((d,v)::G) (rs++D) F a w')->K a w'):ru P ⟨some d,.call { callee:=.value (.func f),args:=args,argTypes:=tys },ty,pos,af,g⟩ a w K :=
 we (cap:=[]) rfl I rfl hf hargs (by rw [yF]; exact hc) fun v w' O hr=>k v w' hr _ O (fun rs h1 h2=>(I.adds O rs h1 h2).put hn v)
theorem Ha {x:Operand} {cap:bC} {R:Value->World->Prop} (I:St W M T n G D F a w) (hx:ev G x=some (.func (.func f) #[] cap.toArray)) (hf:aP P f=true) (hargs:evs G args.toList=some vs) (hn:Nat.blt d n=true) (hc:bc P No f (vs++cap) w R)
  (k:∀ v w',R v w'->∀ a,Kt No w w'->(∀ rs:List cZ,(∀ r∈rs,r.ok w'/\∀ k,r.dom k->w.heap.size<=k)->(rs.Pairwise fun r s=>∀ k,r.dom k->¬ s.dom k)->St W M T n ((d,v)::G) (rs++D) F a w')->K a w'):ru P ⟨some d,.call { callee:=.value x,args:=args,argTypes:=tys },ty,pos,af,g⟩ a w K :=
 we rfl I hx hf hargs hc fun v w' O hr=>k v w' hr _ O (fun rs h1 h2=>(I.adds O rs h1 h2).put hn v)
theorem bV {R:Value->World->Prop} {b:Nat} {cs:bC} {bt:TypeId} (I:St W M T n G D F a w) (hf:aP P f=true) (hargs:evs G args.toList=some vs) (hn:Nat.blt d n=true) (i:Nat) (hi:D[i]? = some (.box b cs bt)) (hc:bc P (fun k=>k=b) f vs w R)
  (k:∀ v w',R v w'->Kt (fun k=>k=b) w w'->∃ cs',w'.heap[b]? = some (.cells cs'.toArray bt (0,0))/\∀ a,St W M T n ((d,v)::G) (D.set i (.box b cs' bt)) F a w'->K a w'):ru P ⟨some d,.call { callee:=.value (.func f),args:=args,argTypes:=tys },ty,pos,af,g⟩ a w K :=
 we (cap:=[]) rfl I rfl hf hargs (by rw [yF]; exact hc) fun v w' O hr=>by
  obtain⟨cs',h1,h2⟩:=k v w' hr O;exact h2 _ ((I.turn hi (O.mono fun j hj=>by simp [cZ.dom,hj]) (r':=.box b cs' bt) h1 (fun j hj=>.inl hj)).put hn v)
theorem sX {z b o m c:Nat} {k:IntKind} (ht:mW P t=some e) (he:pQ P e=some (ag,z)) (h0:0<=i) (h1:i<m) (w:World):(Instr.indexAt t (.slice (some ⟨b,o,none⟩) m c) (.int k i)).run P w = .ok (.pointer (some ⟨b,o+i.toNat*z,none⟩)) w:=by
 simp [Instr.indexAt,asIntOf,run_underlying (vn ht),h0,h1,pa he,oy]
theorem bz {R:aL α} {xs:List α} {X Y:Operand} {k:IntKind} (I:St W M T n G D F a w) (ht:mW P t=some e) (he:pQ P e=some (ag,R.size)) (hX:ev G X=some v) (hY:ev G Y=some (.int k i)) (j:Nat) (hj:F[j]? = some (aQ R v xs)) (hg:bG xs i=some x) (hn:Nat.blt d n=true)
  (K':∀ b o cs,R.rel (dT T D) w cs x->∀ a,St W M T n ((d,.pointer (some ⟨b,o,none⟩))::G) D (eH b o cs::F) a w->K a w):ru P ⟨some d,.indexAddr t X Y,ty,pos,af,g⟩ a w K:=by
 obtain⟨b,o,c,rfl,_,cs,h1,h2⟩:=aG.get (I.get j hj:aG R (dT T D) w v xs) hg;obtain⟨q1,q2,_⟩:=gY hg;have hr:(execOp a.eval ⟨some d,.indexAddr t X Y,ty,pos,af,g⟩).run P w = .ok (.value (.pointer (some ⟨b,o+i.toNat*R.size,none⟩))) w:=by simp [execOp,I.ev hX,I.ev hY,sX ht he q1 q2]
 exact A7 hr (K' b _ cs h1 _ ((I.put hn _).fact (eH b _ cs) h2))
theorem mh {R:aL α} {xs:List α} (I:St W M T n G D F a w) (ht:mW P t=some e) (he:pQ P e=some (ag,R.size)) (j:Nat) (hj:F[j]? = some (aQ R v xs)) (hg:bG xs i=some x) :
  ∃ b o cs,R.rel (dT T D) w cs x/\(∀ {E:Nat->Prop} {d:Option Nat} {ty:TypeId} {X Y:Operand} {pos:String} {af:Array Edge} {g:Option (Nat×Bool)} {k:IntKind},ev G X=some v->ev G Y=some (.int k i)->Ye P ⟨d,.indexAddr t X Y,ty,pos,af,g⟩ a E w (.pointer (some ⟨b,o,none⟩)))/\St W M T n G D (eH b o cs::F) a w:=by
 obtain⟨b,o,c,rfl,_,cs,h1,h2⟩:=aG.get (I.get j hj:aG R (dT T D) w v xs) hg;obtain⟨q1,q2,_⟩:=gY hg;refine⟨b,_,cs,h1,fun hX hY=>Ye.of fun w=>by simp [execOp,I.ev hX,I.ev hY,sX ht he q1 q2],I.fact (eH b _ cs) h2⟩
end
end
section
open Go.RowKit
variable {α:Type} {R:aL α} {bt d:Nat} {e:TypeId} {hi:Int} {k1 k2:IntKind} {lo:Int} {sz:Nat} {t ty:TypeId} {v:Value} {xs ys:List α}
variable {pos:String} {af:Array Edge} {g:Option (Nat×Bool)}
def B7 (P:Program) (t:TypeId):Option (TypeId×Nat×Nat):=match P.underlying t with
 | some (.slice e)=>match P.info? e with
  | some i=>match i.zero with
   | some z=>cond (Nat.beq z.cells.size i.size&&Nat.blt 0 i.size) (some (e,i.size,i.bytes)) none
   | none=>none
  | none=>none
 | _=>none
theorem Dz {P:Program} (h:B7 P t=some (e,sz,bt)):Le P t e sz bt:=by
 unfold B7 at h;split at h
 ·rename_i e' hu;split at h
  ·rename_i i hi;split at h
   ·rename_i z hz;cases hc:(Nat.beq z.cells.size i.size&&Nat.blt 0 i.size) with
    | false=>rw [hc] at h; cases h
    | true =>
     rw [hc] at h;simp only [cond_true,cp,xH] at h;obtain⟨rfl,rfl,rfl⟩:=h;simp only [ri] at hc;exact⟨hu,⟨i,z,hi,hz,rfl,rfl,vU hc.1⟩,du hc.2⟩
   ·cases h
  ·cases h
 ·cases h
def R8 (len size:Nat):List (Nat×Nat):=(List.range len).map fun i=>(i*size,size)
def Sk (zc:bC) (k:Nat):bC:=((Array.range k).map (zc.toArray[· % zc.toArray.size]!)).toList
section
variable {P:Program} {W:World} {M T E:Nat->Prop} {n:Nat} {G G':List (Nat×Value)} {D D':List cZ} {F F':List cD} {a:Act} {w w':World} {K:Act->World->Prop} {Q:Exit->Act->World->Prop}
theorem ba {len:Nat} {ps:List (Nat×Operand)} {zs zl ws:bC} {us:List (bC)} {vs:List (Nat×Value)} (I:St W M T n G D F a w) (he:B7 P t=some (e,sz,bt)) (hz:gj P e=some zs) (hzl:Sk zs (len*sz)=zl) (hv:evp G ps=some vs) (hcs:Cs vs us) (hf:CD (R8 len sz) zl vs us=some ws) (hl:Nat.ble (len*sz) 1000=true) (hl0:Nat.blt 0 len=true) (hn:Nat.blt d n=true)
  (k:∀ b a w',Kt No w w'->St W M T n ((d,.slice (some ⟨b,0,none⟩) len len)::G) (.box b ws e::D) F a w'->K a w'):ru P ⟨some d,.buildSlice t len ps.toArray,ty,pos,af,g⟩ a w K:=by
 obtain⟨ht,⟨i,z,hi,hz0,hsz,hby,hzc⟩,hpos⟩:=Dz he;have hzz:z.cells.toList=zs:=by
  unfold gj at hz;rw [hi] at hz;simp only [hz0,cp] at hz;exact hz
 have h1:=du hl;have h2:0<len:=du hl0;have hfill:=DB (place:=fun i=>some (i*sz,sz)) (pl:=R8 len sz) (fun i q hq=>by
  unfold R8 at hq;rw [ro] at hq;cases hr:(List.range len)[i]? with
  | none=>rw [hr] at hq; cases hq
  | some j =>
   rw [hr] at hq;simp only [mg,cp] at hq;have:=cm.1 hr;obtain⟨_,hj⟩:=this;simp only [List.getElem_range] at hj;subst hj; rw [<- hq]) vs us zl ws hcs hf
 subst hsz;have hcells:((Array.range (len*i.size)).map (z.cells[· % z.cells.size]!))=zl.toArray:=by
  rw [<- hzl]; unfold Sk; rw [<- hzz]
 have hev:(ps.toArray.map (fun p=>(p.1,a.eval p.2))).toList=vs:=by rw [<- I.evp hv]; simp
 have hr:(Instr.buildSlice t len (ps.toArray.map (fun p=>(p.1,a.eval p.2)))).run P w = .ok (.slice (some ⟨w.heap.size,0,none⟩) len len) (w.alloc (.cells ws.toArray e)) :=
  run_buildSlice w t e len _ ws.toArray i z ht hi hz0 (by omega) (by have:=Nat.mul_pos h2 hpos; omega) (by rw [hcells,hev]; exact hfill)
 have hr2:(execOp a.eval ⟨some d,.buildSlice t len ps.toArray,ty,pos,af,g⟩).run P w = .ok (.value (.slice (some ⟨w.heap.size,0,none⟩) len len)) (w.alloc (.cells ws.toArray e)):=by
  show (do pure (Next.value (<- Instr.buildSlice t len (ps.toArray.map fun p=>(p.1,a.eval p.2)))):Sem Next).run P w=_;rw [Sem.run_bind,hr]; rfl
 exact A7 hr2 (k w.heap.size _ _ (Kt.alloc _ _) ((I.alloc ws e).put hn _))
theorem St.lit {b m:Nat} {us:bC} (I:St W M T n G D F a w) (i:Nat) (hi:D[i]? = some (.box b us e)) (C:0<R.size) (hr:aY R (dT T D) w us xs) (hm:m=xs.length) (hlim:Nat.ble m 1000=true):St W M T n G (D.set i (.own (.slice (some ⟨b,0,none⟩) m m) e R.size us)) (ao R us xs::F) a w:=by
 have hok:=I.own _ (aK hi);have h1:=du hlim;subst hm;have h2:=I.fact (ao R us xs) hr;refine h2.turn hi (aj _ _) ⟨.inr ⟨b,0,xs.length,xs.length,us.toArray,rfl,hr.1,bT _,.of hok,bZ _,by unfold maxLen; omega,by rw [n4,<- hr.1]; simp,fun j u hu=>by rw [n4]; simpa using hu⟩,C⟩ (fun j hj=>.inl hj)
theorem St.zn (R:aL α) (e:TypeId) (C:0<R.size) (I:St W M T n G D F a w):St W M T n G (.own (.slice none 0 0) e R.size []::D) (ao R [] []::F) a w :=
 (I.add (aj _ _) (.own (.slice none 0 0) e R.size []) ⟨pi.nil_ _ _ _ _,C⟩ (fun k O=>by simp [cZ.dom,Value.ownBlock] at O)).fact _ (aY.nil_ _ _ _)
theorem Li {o:Oper} {s x:Operand} {cl news:bC} {A:Option Addr} {m c:Nat} (ho:o.op = .call { callee:=.builtin .append,args:=#[s,x],argTypes:=#[t,t] }) (I:St W M T n G D F a w) (he:B7 P t=some (e,sz,bt)) (hs:ev G s=some v) (hx:ev G x=some (.slice A m c)) (hown:pi w 0 e sz v cl) (hl:news.length=m*sz) (hat:At w A news) (h1:∀ u∈news,u.oneCell'=true) (hz:(cl.length+news.length)<=4294967296*sz) (hb:Nat.ble (sz*bt) 32768=true) (hbs:Nat.ble sz 32768=true)
  (k:∀ v' w',Kt (fun j=>v.ownBlock=some j) w w'->pi w' 0 e sz v' (cl++news)->(∀ j,v'.ownBlock=some j->v.ownBlock=some j∨w.heap.size<=j)->K (a.put o.dst v') w'):ru P o a w K:=fun K' Q hK=>by
 have q1:=du hb;have q2:=du hbs;have q3:(cl.length+news.length)*bt<=4294967296*(sz*bt):=by rw [<- Nat.mul_assoc]; exact mM _ hz
 exact wV w s x t ho e sz bt (Dz he) 0 v cl (I.ev hs) hown A m c news (I.ev hx) hl hat h1 (by unfold maxLen; omega) (by omega) (bT _) fun v' w' h2 h3 h4=>hK _ _ (k v' w' (Kt.grown h3) h2 (fun j hj=>by
  rcases h4 with h4 | h4
  ·exact .inl (h4▸hj)
  ·rw [h4] at hj; injection hj with hj; exact .inr (by omega)))
theorem bJ {s x:Operand} {u:Value} {cl:bC} (I:St W M T n G D F a w) (he:B7 P t=some (e,R.size,bt)) (hb:Nat.ble (R.size*bt) 32768=true) (hbs:Nat.ble R.size 32768=true) (hs:ev G s=some v) (hx:ev G x=some u) (i:Nat) (hi:D[i]? = some (.own v e R.size cl)) (p:Nat) (hp:F[p]? = some (ao R cl xs)) (q:Nat) (hq:F[q]? = some (aQ R u ys)) (hroom:bW (xs.length+ys.length)=true) (hn:Nat.blt d n=true)
  (k:∀ v' cl' a w',Kt (fun j=>v.ownBlock=some j) w w'->St W M T n ((d,v')::G) (D.set i (.own v' e R.size cl')) (ao R cl' (xs++ys)::F) a w'->K a w'):ru P ⟨some d,.call { callee:=.builtin .append,args:=#[s,x],argTypes:=#[t,t] },ty,pos,af,g⟩ a w K:=by
 obtain⟨hown,hsz⟩:=I.own _ (aK hi);have hrow:aY R (dT T D) w cl xs:=I.get p hp;have hsl:aG R (dT T D) w u ys:=I.get q hq;obtain⟨A,c,rfl,_⟩:=id hsl;obtain⟨_,cs,hat,hr⟩:=hsl.rows hsz;have h1:=Fk hroom;refine Li rfl I he hs hx hown hr.1 hat (hr.cell hsz) (by rw [hrow.1,hr.1,<- ju]; exact mM _ h1) hb hbs fun v' w' h2 h3 h4=>?_;have h5:=I.fact (ao R (cl++cs) (xs++ys)) (hrow.append hr);exact k v' (cl++cs) _ w' h2 ((h5.turn hi (r':=.own v' e R.size (cl++cs)) h2 ⟨h3,hsz⟩ h4).put hn v')
theorem uF {isS:Bool} {len cap:Nat} (h0:0<=lo) (h1:lo<=hi) (h2:hi<=len) (h3:len<=cap) (w:World) (olo ohi:Option Value) (hlo:olo=some (.int k1 lo)∨(olo=none/\lo=0)) (hhi:ohi=some (.int k2 hi)∨(ohi=none/\hi=len)):(Instr.sliceBounds isS len cap olo ohi none).run P w = .ok (lo.toNat,hi.toNat,cap) w:=by
 have a1:hi<=cap:=by omega
 have a2:0<=hi:=by omega
 have a3:lo<=(hi.toNat:Int):=by omega
 rcases hlo with rfl | ⟨rfl,rfl⟩ <;> rcases hhi with rfl | ⟨rfl,rfl⟩
 ·simp [Instr.sliceBounds,Instr.sliceBound,asIntOf,h0,a1,a2,a3];intro h;omega
 ·simp [Instr.sliceBounds,Instr.sliceBound,asIntOf,h0,h1]
 ·simp [Instr.sliceBounds,Instr.sliceBound,asIntOf,a1,a2]
 ·simp [Instr.sliceBounds]
theorem wu (h:tY xs lo hi=some ys):0<=lo/\lo<=hi/\hi<=xs.length/\ys=(xs.take hi.toNat).drop lo.toNat:=by
 unfold tY at h;split at h
 ·rename_i hc; injection h with h; exact⟨hc.1,hc.2.1,hc.2.2,h.symm⟩
 ·cases h
theorem aG.cut {T:Nat->Prop} {A:Option Addr} {c l h:Nat} (hs:aG R T w (.slice A xs.length c) xs) (h1:l<=h) (h2:h<=xs.length) (B:Option Addr) (hB:l<h->∀ b o,A=some ⟨b,o,none⟩->B=some ⟨b,o+l*R.size,none⟩):aG R T w (.slice B (h-l) (c-l)) ((xs.take h).drop l):=by
 obtain⟨A',c',e,q1,q2,q3⟩:=hs;injection e with e1 e2 e3;subst e1 e3;have hlen:((xs.take h).drop l).length=h-l:=by simp; omega
 refine⟨B,c-l,by rw [hlen],by omega,by omega,?_⟩;by_cases hlt:l<h
 ·rcases q3 with q3 | ⟨b,off,rfl,hc⟩
  ·subst q3; simp at h2; omega
  ·refine .inr ⟨b,off+l*R.size,hB hlt b off rfl,fun k x hx=>?_⟩;rw [vV,s6] at hx;split at hx
   ·obtain⟨cs,g1,g2⟩:=hc _ x hx;exact⟨cs,g1,by rwa [show off+l*R.size+k*R.size=off+(l+k)*R.size by rw [ju]; omega]⟩
   ·cases hx
 ·left;apply BQ; omega
theorem Qf {X:Operand} {olo ohi:Option Operand} {ag:Bool} (I:St W M T n G D F a w) (ht:mW P t=some e) (he:pQ P e=some (ag,R.size)) (hX:ev G X=some v) (hlo:(∃ x,olo=some x/\ev G x=some (.int k1 lo))∨(olo=none/\lo=0)) (hhi:(∃ x,ohi=some x/\ev G x=some (.int k2 hi))∨(ohi=none/\hi=xs.length)) (j:Nat) (hj:F[j]? = some (aQ R v xs)) (hg:tY xs lo hi=some ys) (hn:Nat.blt d n=true)
  (K':∀ v' a,St W M T n ((d,v')::G) D (aQ R v' ys::F) a w->K a w):ru P ⟨some d,.slice t X olo ohi none,ty,pos,af,g⟩ a w K:=by
 obtain⟨q1,q2,q3,rfl⟩:=wu hg;have hsl:aG R (dT T D) w v xs:=I.get j hj;obtain⟨A,c,rfl,p1,p2⟩:=hsl.len;have hb:=uF (P:=P) (isS:=true) (k1:=k1) (k2:=k2) q1 q2 q3 p1 w (olo.map a.eval) (ohi.map a.eval)
  (by
    rcases hlo with⟨x,rfl,hx⟩|⟨rfl,rfl⟩
    ·exact .inl (by rw [mg,I.ev hx])
    ·exact .inr ⟨rfl,rfl⟩)
  (by
    rcases hhi with⟨x,rfl,hx⟩|⟨rfl,rfl⟩
    ·exact .inl (by rw [mg,I.ev hx])
    ·exact .inr ⟨rfl,rfl⟩)
 have hr:(execOp a.eval ⟨some d,.slice t X olo ohi none,ty,pos,af,g⟩).run P w = .ok (.value (.slice (if c=lo.toNat then A else A.map (·.add (lo.toNat*R.size))) (hi.toNat-lo.toNat) (c-lo.toNat))) w:=by
  have hx:=I.ev hX;simp [execOp,Instr.sliceAt,Instr.slice,run_underlying (vn ht),hx,hb,pa he]
 refine A7 hr (K' _ _ ((I.put hn _).fact (aQ R _ _) ?_));refine hsl.cut (by omega) (by omega) _ (fun hlt b o U=>?_);rw [if_neg (by omega),U];simp [oy]
theorem IK {s p:ByteArray} (h:kz s lo hi=some p):0<=lo/\lo<=hi/\hi<=s.size/\p=s.extract lo.toNat hi.toNat:=by
 unfold kz at h;split at h
 ·rename_i hc; injection h with h; exact⟨hc.1,hc.2.1,hc.2.2,h.symm⟩
 ·cases h
theorem iy {d:Option Nat} {X:Operand} {olo ohi:Option Operand} {s p:ByteArray} (I:St W M T n G D F a w) (ht:P.underlying t=some .string) (hX:ev G X=some (.string s)) (hlo:(∃ x,olo=some x/\ev G x=some (.int k1 lo))∨(olo=none/\lo=0)) (hhi:(∃ x,ohi=some x/\ev G x=some (.int k2 hi))∨(ohi=none/\hi=s.size)) (hg:kz s lo hi=some p):Ye P ⟨d,.slice t X olo ohi none,ty,pos,af,g⟩ a E w (.string p) :=
 Ye.of fun w=>by
  obtain⟨q1,q2,q3,rfl⟩:=IK hg;have hb:=uF (P:=P) (isS:=false) (k1:=k1) (k2:=k2) q1 q2 q3 (bZ _) w (olo.map a.eval) (ohi.map a.eval)
   (by
     rcases hlo with⟨x,rfl,hx⟩|⟨rfl,rfl⟩
     ·exact .inl (by rw [mg,I.ev hx])
     ·exact .inr ⟨rfl,rfl⟩)
   (by
     rcases hhi with⟨x,rfl,hx⟩|⟨rfl,rfl⟩
     ·exact .inl (by rw [mg,I.ev hx])
     ·exact .inr ⟨rfl,rfl⟩)
  simp [execOp,Instr.sliceAt,Instr.slice,run_underlying ht,I.ev hX,hb]
end
end
section
open Go.RowKit
variable {α:Type} {R:aL α} {cl:bC} {d:Option Nat} {e:TypeId} {k:IntKind} {p q:Int} {t ty:TypeId} {v:Value} {x:Operand} {xs:List α} {y:Operand}
variable {pos:String} {af:Array Edge} {g:Option (Nat×Bool)}
def Lf (D:List cZ):List cZ->Prop
 | []=>True
 | r::s=>(r.bare=true∨r∈D)/\Lf D s
theorem Lf.sub {T:Nat->Prop} {D:List cZ}:∀ {rs:List cZ},Lf D rs->∀ k,dT T rs k->dT T D k
 | [],_,k,O=>by
  rcases O with O | ⟨r,hr,_⟩
  ·exact .inl O
  ·cases hr
 | r::s,h,k,O=>by
  rcases G1.1 O with O | O
  ·exact Lf.sub h.2 k O
  ·rcases h.1 with h1 | h1
   ·exact absurd O (cZ.bare_no h1 k)
   ·exact .inr ⟨r,h1,O⟩
def j9 (R:aL α) (T:Nat->Prop) (W w:World) (rs:List cZ) (e:TypeId) (v:Value) (cl:bC) (xs:List α):Prop :=
 pi w 0 e R.size v cl/\(∀ k,v.ownBlock=some k->W.heap.size<=k)/\aY R (dT T rs) w cl xs
theorem aG.dn {T:Nat->Prop} {w:World} (h:aG R T w v xs):aG R (dT T []) w v xs :=
 h.sub fun k O=>.inl (by rcases O with O | ⟨r,hr,_⟩; exact O; cases hr)
theorem aG.up {T:Nat->Prop} {D rs:List cZ} {w:World} (hi:Lf D rs) (h:aG R (dT T D) w v xs):aG R (dT T rs) w v xs :=
 h.sub fun k O=>.inl (hi.sub k O)
theorem j9.sl {T:Nat->Prop} {W w:World} {rs:List cZ} (hs:0<R.size) (h:j9 R T W w rs e v cl xs) (hT:∀ k,T k->k<W.heap.size):aG R T w v xs :=
 pi.rd hs h.1 (h.2.2.keep (aj _ _) fun k O=>.inl (.inl O)) fun k O ht=>by have:=h.2.1 k O; have:=hT k ht; omega
theorem gh {w:World} {B:Nat} {sz:Nat} (h:pi w B e sz v cl):v.oneCell'=true:=by
 rcases h with⟨rfl,_⟩|⟨g,off,n,cap,cs,rfl,_⟩ <;> rfl
theorem fP (R:aL α) (T:Nat->Prop) (W w:World) (rs:List cZ) (e:TypeId):j9 R T W w rs e (.slice none 0 0) [] [] :=
 ⟨pi.nil_ _ _ _ _,fun k O=>by simp [Value.ownBlock] at O,aY.nil_ _ _ _⟩
def qV (op:BinOp) (k:IntKind) (x y:Int):Int :=
 let a:=BitVec.ofInt k.bits x
 let b:=BitVec.ofInt k.bits y
 match op with
 | .and=>k.wrap (a &&& b).toNat
 | .or=>k.wrap (a ||| b).toNat
 | .xor=>k.wrap (a ^^^ b).toNat
 | _=>k.wrap (a &&& ~~~b).toNat
def MM:BinOp->Bool
 | .and | .or | .xor | .andNot=>true
 | _=>false
section
variable {P:Program} {W:World} {M T E:Nat->Prop} {n:Nat} {G G':List (Nat×Value)} {D D' rs:List cZ} {F F':List cD} {a:Act} {w w':World} {K:Act->World->Prop} {Q:Exit->Act->World->Prop}
theorem St.zo (h:St W No T n G D F a w) (hi:Lf D rs) (i:Nat) (hd:D[i]? = some (.own v e R.size cl)) (j:Nat) (hj:F[j]? = some (ao R cl xs)):j9 R T W w rs e v cl xs:=by
 have hm:=aK hd;exact⟨(h.own _ hm).1,fun k O=>(h.free _ hm k O).2.resolve_left fun h=>h,(h.get j hj:aY R (dT T D) w cl xs).keep (aj _ _) fun k O=>.inl (hi.sub k O)⟩
theorem St.zp {v2:Value} {e2:TypeId} {sz sz2:Nat} {B4:bC} (h:St W M T n G D F a w) (i:Nat) (hi:D[i]? = some (.own v e sz cl)) (j:Nat) (hj:D[j]? = some (.own v2 e2 sz2 B4)) (hij:i≠j):∀ k,v.ownBlock=some k->v2.ownBlock≠some k:=by
 intro k O hk2;obtain⟨l1,e1⟩:=cm.1 hi;obtain⟨l2,e2⟩:=cm.1 hj;rcases xD hij with hlt | hlt
 ·exact fJ.1 h.apart i j l1 l2 hlt k (by rw [e1]; exact O) (by rw [e2]; exact hk2)
 ·exact fJ.1 h.apart j i l2 l1 hlt k (by rw [e2]; exact hk2) (by rw [e1]; exact O)
theorem ou.mem {D rs:List cZ} {is:List Nat} (h:ou D is rs):∀ r∈rs,r∈D:=fun r hr=>by
 obtain⟨i,_,hi⟩:=h.get r hr; exact aK hi
theorem OJ {s:TypeId} {k' ks:IntKind} (I:St W M T n G D F a w) (hx:ev G x=some (.int k p)) (hs:P.underlying s=some (.int ks)) (ht:P.underlying t=some (.int k')):Ye P ⟨d,.convert s t x,ty,pos,af,g⟩ a E w (.int k' (k'.wrap p)) :=
 Ye.of fun w=>by
  simp [execOp,I.ev hx,convert,run_underlying hs,run_underlying ht,Conv.intToInt]
theorem P3 {ys:List α} {lo hi:Int} {ag:Bool} (I:St W M T n G D F a w) (ht:mW P t=some e) (he:pQ P e=some (ag,R.size)) (j:Nat) (hj:F[j]? = some (aQ R v xs)) (hg:tY xs lo hi=some ys) :
  ∃ v',(∀ {E:Nat->Prop} {d:Option Nat} {ty:TypeId} {X:Operand} {olo ohi:Option Operand} {pos:String} {af:Array Edge} {g:Option (Nat×Bool)} {k1 k2:IntKind},ev G X=some v->((∃ x,olo=some x/\ev G x=some (.int k1 lo))∨(olo=none/\lo=0))->((∃ x,ohi=some x/\ev G x=some (.int k2 hi))∨(ohi=none/\hi=xs.length))->Ye P ⟨d,.slice t X olo ohi none,ty,pos,af,g⟩ a E w v')/\St W M T n G D (aQ R v' ys::F) a w:=by
 obtain⟨q1,q2,q3,rfl⟩:=wu hg;have hsl:aG R (dT T D) w v xs:=I.get j hj;obtain⟨A,c,rfl,p1,p2⟩:=hsl.len;refine⟨.slice (if c=lo.toNat then A else A.map (·.add (lo.toNat*R.size))) (hi.toNat-lo.toNat) (c-lo.toNat),?_,I.fact _ (hsl.cut (by omega) (by omega) _ (fun hlt b o U=>?_))⟩
 ·intro E d ty X olo ohi pos af g k1 k2 hX hlo hhi;refine Ye.of fun w=>?_;have hb:=uF (P:=P) (isS:=true) (k1:=k1) (k2:=k2) q1 q2 q3 p1 w (olo.map a.eval) (ohi.map a.eval)
   (by
     rcases hlo with⟨x,rfl,hx⟩|⟨rfl,rfl⟩
     ·exact .inl (by rw [mg,I.ev hx])
     ·exact .inr ⟨rfl,rfl⟩)
   (by
     rcases hhi with⟨x,rfl,hx⟩|⟨rfl,rfl⟩
     ·exact .inl (by rw [mg,I.ev hx])
     ·exact .inr ⟨rfl,rfl⟩)
  simp [execOp,Instr.sliceAt,Instr.slice,run_underlying (vn ht),I.ev hX,hb,pa he]
 ·rw [if_neg (by omega),U];simp [oy]
theorem QK {tys:Array TypeId} (I:St W M T n G D F a w) (hx:ev G x=some (.int k p)) (hy:ev G y=some (.int k q)):Ye P ⟨d,.call { callee:=.builtin .max,args:=#[x,y],argTypes:=tys },ty,pos,af,g⟩ a E w (.int k (max p q)) :=
 Ye.of fun w=>by
  have h:(if q>p then q else p)=max p q:=by rw [Int.max_def]; split <;> split <;> omega
  simp only [execOp,resolve,invoke,builtin,Sem.run_bind,Sem.run_pure,Result.andThen_ok,HU,wX,FM,I.ev hx,I.ev hy,Builtin.max_,List.foldlM_cons,List.foldlM_nil,Builtin.max2,h]
theorem K4 {tys:Array TypeId} (I:St W M T n G D F a w) (hx:ev G x=some (.int k p)) (hy:ev G y=some (.int k q)):Ye P ⟨d,.call { callee:=.builtin .min,args:=#[x,y],argTypes:=tys },ty,pos,af,g⟩ a E w (.int k (min p q)) :=
 Ye.of fun w=>by
  have h:(if q<p then q else p)=min p q:=by rw [Int.min_def]; split <;> split <;> omega
  simp only [execOp,resolve,invoke,builtin,Sem.run_bind,Sem.run_pure,Result.andThen_ok,HU,wX,FM,I.ev hx,I.ev hy,Builtin.min_,List.foldlM_cons,List.foldlM_nil,Builtin.min2,h]
theorem uN {op:BinOp} {t':TypeId} (I:St W M T n G D F a w)
  (hx:ev G x=some (.int k p)) (hy:ev G y=some (.int k q)) (hv:MM op=true):Ye P ⟨d,.binOp op t x y t',ty,pos,af,g⟩ a E w (.int k (qV op k p q)) :=
 Ye.of fun w=>by
  have h1:=I.ev hx;have h2:=I.ev hy;cases op <;> simp only [MM,reduceCtorEq] at hv <;> simp [execOp,h1,h2,eqGuard,binOp,Op.intBits,qV]
theorem OI {op:BinOp} {t':TypeId} {p q:Bool} (I:St W M T n G D F a w)
  (hx:ev G x=some (.bool p)) (hy:ev G y=some (.bool q)) (ht:P.underlying t=some .bool) {v:Bool} (hv:(op = .eql/\v=(p==q))∨(op = .neq/\v=(p != q))):Ye P ⟨d,.binOp op t x y t',ty,pos,af,g⟩ a E w (.bool v) :=
 Ye.of fun w=>by
  have h1:=I.ev hx;have h2:=I.ev hy;have h3:=run_equal_bool (P:=P) w t p q ht;rcases hv with⟨rfl,rfl⟩|⟨rfl,rfl⟩ <;> simp [execOp,h1,h2,eqGuard,binOp,h3];cases p <;> cases q <;> rfl
end
end
section
open Go.RowKit
variable {α:Type} {R:aL α} {X:Operand} {ag:Bool} {b:Nat} {cl cs:bC} {d:Option Nat} {e e':TypeId} {i:Int} {o p:Nat} {r r':cZ} {sz:Nat} {t ty:TypeId} {v:Value} {x:α} {xs:List α} {z:Nat}
variable {pos:String} {af:Array Edge} {g:Option (Nat×Bool)}
theorem SI {T:Nat->Prop} (w:World):Nw T (dT T []) w:=fun k O=>.inl (by rcases O with O | ⟨r,hr,_⟩; exact O; cases hr)
def MF (er:Value) (b:Bool):Prop:=(b=false/\er = .nilIface)∨(b=true/\∃ t v,er = .iface t v)
section
variable {P:Program} {W:World} {M T E:Nat->Prop} {n:Nat} {G G':List (Nat×Value)} {D D' rs:List cZ} {F F':List cD} {a:Act} {w w':World} {K:Act->World->Prop} {Q:Exit->Act->World->Prop}
theorem Mv {t':TypeId} {x:Operand} {er:Value} {b:Bool} (I:St W M T n G D F a w)
  (hx:ev G x=some er) (he:MF er b) (ht:P.underlying t=some (.interface (P.methodsAt t))):Ye P ⟨d,.binOp .neq t x (.const .nilIface) t',ty,pos,af,g⟩ a E w (.bool b) :=
 Ye.of fun w=>by
  have h1:=I.ev hx;have hc:a.eval (.const .nilIface) = .nilIface:=rfl;rcases he with⟨rfl,rfl⟩|⟨rfl,tt,vv,rfl⟩
  ·have h3:=run_equal_nil_nil (P:=P) w t ht;simp only [execOp,h1,hc,eqGuard,binOp];simp [h3]
  ·have h3:=run_equal_held_nil (P:=P) w t tt vv ht;simp only [execOp,h1,hc,eqGuard,binOp];simp [h3]
def Lh (v:Value) (b o sz:Nat) (i:Int) (p:Nat):Prop:=∃ off m c,v = .slice (some ⟨b,off,none⟩) m c/\o=off+i.toNat*sz/\p=i.toNat*sz
theorem yb {e:Nat} {sz2:Nat} (h:Lh v b o sz i p):(cZ.own v e sz2 cl).dom b:=by obtain⟨off,m,c,rfl,_,_⟩:=h; rfl
theorem Hj (I:St W M T n G D F a w) (q:Nat) (hq:D[q]? = some (.own v e R.size cl)) (j:Nat) (hj:F[j]? = some (ao R cl xs)) (hg:bG xs i=some x) :
  ∃ b off c,v = .slice (some ⟨b,off,none⟩) xs.length c/\∃ cs,R.rel (dT T D) w cs x/\(∀ k u,cs[k]? = some u->cl[i.toNat*R.size+k]? = some u):=by
 obtain⟨q1,q2,q3⟩:=gY hg;obtain⟨hown,hsz⟩:=I.own _ (aK hq);have hrow:aY R (dT T D) w cl xs:=I.get j hj;obtain⟨cs,h1,h2⟩:=hrow.2 _ _ q3;rcases hown with⟨rfl,rfl⟩|⟨gb,off,m,cap,row,rfl,p1,p2,p3,p4,p5,p6,p7⟩
 ·have h0:xs.length*R.size=0:=hrow.1.symm;rcases Nat.mul_eq_zero.1 h0 with h | h <;> omega
 ·have hm:m=xs.length:=xG hsz (p1.symm.trans hrow.1);subst hm;exact⟨gb,off,cap,rfl,cs,h1,h2⟩
theorem eQ {d:Nat} {Y:Operand} {k:IntKind} (I:St W M T n G D F a w) (ht:mW P t=some e) (he:pQ P e=some (ag,R.size)) (hX:ev G X=some v) (hY:ev G Y=some (.int k i)) (q:Nat) (hq:D[q]? = some (.own v e' R.size cl)) (j:Nat) (hj:F[j]? = some (ao R cl xs)) (hg:bG xs i=some x) (hn:Nat.blt d n=true)
  (K':∀ b o p cs,R.rel (dT T D) w cs x->Lh v b o R.size i p->(∀ k u,cs[k]? = some u->cl[p+k]? = some u)->∀ a,St W M T n ((d,.pointer (some ⟨b,o,none⟩))::G) D F a w->K a w):ru P ⟨some d,.indexAddr t X Y,ty,pos,af,g⟩ a w K:=by
 obtain⟨b,off,c,rfl,cs,h1,h2⟩:=Hj I q hq j hj hg;obtain⟨q1,q2,_⟩:=gY hg;have hr:(execOp a.eval ⟨some d,.indexAddr t X Y,ty,pos,af,g⟩).run P w = .ok (.value (.pointer (some ⟨b,off+i.toNat*R.size,none⟩))) w:=by simp [execOp,I.ev hX,I.ev hY,sX ht he q1 q2]
 exact A7 hr (K' b _ _ cs h1 ⟨off,_,_,rfl,rfl,rfl⟩ h2 _ (I.put hn _))
theorem mR (I:St W M T n G D F a w) (ht:mW P t=some e) (he:pQ P e=some (ag,R.size)) (q:Nat) (hq:D[q]? = some (.own v e' R.size cl)) (j:Nat) (hj:F[j]? = some (ao R cl xs)) (hg:bG xs i=some x) :
  ∃ b o p cs,R.rel (dT T D) w cs x/\Lh v b o R.size i p/\(∀ k u,cs[k]? = some u->cl[p+k]? = some u)/\(∀ {E:Nat->Prop} {d:Option Nat} {ty:TypeId} {X Y:Operand} {pos:String} {af:Array Edge} {g:Option (Nat×Bool)} {k:IntKind},ev G X=some v->ev G Y=some (.int k i)->Ye P ⟨d,.indexAddr t X Y,ty,pos,af,g⟩ a E w (.pointer (some ⟨b,o,none⟩))):=by
 obtain⟨b,off,c,rfl,cs,h1,h2⟩:=Hj I q hq j hj hg;obtain⟨q1,q2,_⟩:=gY hg;exact⟨b,_,_,cs,h1,⟨off,_,_,rfl,rfl,rfl⟩,h2,fun hX hY=>Ye.of fun w=>by simp [execOp,I.ev hX,I.ev hY,sX ht he q1 q2]⟩
theorem cC {x:Operand} {k:Nat} {us:bC} (I:St W M T n G D F a w) (ht:pQ P t=some (ag,z)) (q:Nat) (hq:D[q]? = some (.own v e sz cl)) (ho:Lh v b o sz i p) (hc:∀ k u,cs[k]? = some u->cl[p+k]? = some u) (hx:ev G x=some (.pointer (some ⟨b,o+k,none⟩))) (hE:¬ E b)
  (hu:(cs.drop k).take z=us) (hl:us.length=z) (hz:ag=false->z=1):Ye P ⟨d,.load t x,ty,pos,af,g⟩ a E w (bB ag us):=fun w' O=>by
 obtain⟨hown,hsz⟩:=I.own _ (aK hq);obtain⟨off,m,c,rfl,rfl,rfl⟩:=ho;rcases hown with⟨h,_⟩|⟨gb,off',m',cap,row,h,p1,p2,p3,p4,p5,p6,p7⟩
 ·cases h
 ·injection h with h1 h2 h3;injection h1 with h1;injection h1 with h1 h4;subst h1 h4;have hr':=p3.eqb (O.block b p3.lt hE);have:=xv (P:=P) (b:=b) (o:=off+i.toNat*sz+k) ht hl hz w' (fun j u hj=>by
   rw [hr'.cell];rw [<- hu,s6] at hj;split at hj
   ·rw [vV] at hj;have:=p7 _ u (hc _ u hj);rwa [show off+(i.toNat*sz+(k+j))=off+i.toNat*sz+k+j by omega] at this
   ·cases hj)
  simp [execOp,I.ev hx,this]
theorem Aj (ht:pQ P t=some (ag,z)) {row:Array Value} (hr:Cw w b row e) (hz:v.cells.toList.length=z) (hl:o+z<=row.size) (h1:∀ u∈v.cells.toList,u.oneCell'=true) :
  ∃ row':Array Value,(Instr.storeAt t (.pointer (some ⟨b,o,none⟩)) v).run P w = .ok () (w.setCells b o v.cells.toList)/\Cw (w.setCells b o v.cells.toList) b row' e/\row'.size=row.size/\∀ y,row'[y]? = if o<=y/\y<o+z then v.cells.toList[y-o]? else row[y]?:=by
 have h2:=run_storeCells_cells (P:=P) b o v.cells.toList 0 w (fun j hj=>by rw [pd,hr.cell,Al (by omega)]; rfl) (fun j hj=>by rw [pd]; exact hr.free (by omega)) h1;simp only [pd] at h2;have h3:v.cells.size=z:=by rw [<- hz]; simp
 obtain⟨fz,hg0,hfz⟩:=id hr;obtain⟨row',c1,c2,c3,c4⟩:=ma b e fz v.cells.toList o w row hg0;refine⟨row',by simp [Instr.storeAt,Instr.sureAddr,storeVar,pa ht,h3,h2],⟨fz,c1,by rw [c2]; exact hfz⟩,c2,fun y=>?_⟩;by_cases hy:o<=y/\y<o+z
 ·rw [if_pos hy];have hj:y-o<v.cells.toList.length:=by omega
  have:=c4 (by omega) (y-o) _ (cQ hj);rw [show o+(y-o)=y by omega] at this;rw [this,cQ hj]
 ·rw [if_neg hy];exact c3 y (by omega)
theorem yr (cs us:bC) (o j:Nat) (hl:o+us.length<=cs.length):(ov cs o us)[j]? = if o<=j/\j<o+us.length then us[j-o]? else cs[j]?:=by
 unfold ov;rw [fc,HP,fe,xF (by omega)];by_cases h1:j<o
 ·rw [if_pos h1,s6,if_pos h1,if_neg (by omega)]
 ·rw [if_neg h1,HP];by_cases h2:j<o+us.length
  ·rw [if_pos (by omega),if_pos ⟨by omega,h2⟩]
  ·rw [if_neg (by omega),if_neg (by omega),vV];congr 1; omega
theorem xY {x':α} {Y:Operand} {k:Nat} {u:Value} {us:bC} (I:St W M T n G D F a w) (hX:ev G X=some (.pointer (some ⟨b,o+k,none⟩))) (hY:ev G Y=some u) (hu:u.cells.toList=us) (ht:pQ P t=some (ag,z)) (q:Nat) (hq:D[q]? = some (.own v e R.size cl)) (j:Nat) (hj:F[j]? = some (ao R cl xs)) (ho:Lh v b o R.size i p) (hc:∀ k u,cs[k]? = some u->cl[p+k]? = some u) (hg:bG xs i=some x) (hrel:R.rel (dT T D) w cs x)
  (hz:us.length=z) (hl:Nat.ble (k+z) cs.length=true) (hnew:R.rel (dT T D) w (ov cs k us) x')
  (K':∀ cl' w',Kt (fun j=>v.ownBlock=some j) w w'->St W M T n G (D.set q (.own v e R.size cl')) (ao R cl' (xs.set i.toNat x')::F) a w'->K a w'):ru P ⟨none,.store t X Y,ty,pos,af,g⟩ a w K:=by
 have hmem:=aK hq;obtain⟨hown,hsz⟩:=I.own _ hmem;have hrow:aY R (dT T D) w cl xs:=I.get j hj;obtain⟨q1,q2,q3⟩:=gY hg;have hle:=du hl;have hcl:=R.len hrel;obtain⟨off,m,c,rfl,rfl,rfl⟩:=ho;rcases hown with⟨h,_⟩|⟨gb,off',m',cap,row,h,p1,p2,p3,p4,p5,p6,p7⟩
 ·cases h
 ·injection h with h1 h2 h3;injection h1 with h1;injection h1 with h1 h4;subst h1 h4 h2 h3;have hm:m=xs.length:=xG hsz (p1.symm.trans hrow.1);subst hm;have hlt:i.toNat<xs.length:=(cm.1 q3).1;have hin:i.toNat*R.size+R.size<=xs.length*R.size:=by
   have:(i.toNat+1)*R.size<=xs.length*R.size:=mM _ hlt;rw [ju] at this; omega
  have hcap:xs.length*R.size<=c*R.size:=mM _ p4;have hone:∀ y∈us,y.oneCell'=true:=by
   intro y hy;refine R.one hnew y ?_;unfold ov;exact mD _ (vW _ hy)
  subst hu;have hz2:u.cells.size=z:=by rw [<- hz]; simp
  obtain⟨row',hst,hrow',hsz',hget⟩:=Aj (P:=P) (o:=off+i.toNat*R.size+k) ht p3 hz (by omega) hone;have O:Kt (fun j=>(Value.slice (some ⟨b,off,none⟩) xs.length c).ownBlock=some j) w (w.setCells b (off+i.toNat*R.size+k) u.cells.toList):=(Kt.setCells _ _ _ _).mono fun j h=>by rw [h]; rfl
  have hclen:=hrow.1;have hown':pi (w.setCells b (off+i.toNat*R.size+k) u.cells.toList) 0 e R.size (.slice (some ⟨b,off,none⟩) xs.length c) (ov cl (i.toNat*R.size+k) u.cells.toList):=by
   refine .inr ⟨b,off,xs.length,c,row',rfl,?_,bT _,hrow',p4,p5,by rw [hsz']; exact p6,fun y v hv=>?_⟩
   ·unfold ov; simp only [bm,fe,nr]; omega
   ·rw [yr _ _ _ _ (by omega)] at hv;rw [hget];by_cases hy:i.toNat*R.size+k<=y/\y<i.toNat*R.size+k+u.cells.toList.length
    ·rw [if_pos hy] at hv;rw [if_pos (by omega)];rw [show off+y-(off+i.toNat*R.size+k)=y-(i.toNat*R.size+k) by omega]; exact hv
    ·rw [if_neg hy] at hv;rw [if_neg (by omega)];exact p7 y v hv
  have hrows:aY R (dT T D) w (ov cl (i.toNat*R.size+k) u.cells.toList) (xs.set i.toNat x'):=by
   refine⟨by unfold ov; simp only [bm,fe,nr,FK]; omega,fun y z' hz'=>?_⟩;rw [yG] at hz';by_cases hy:i.toNat=y
   ·rw [if_pos hy,if_pos hlt] at hz';simp only [cp] at hz';subst hz' hy;refine⟨_,hnew,fun s v hv=>?_⟩;rw [yr _ _ _ _ (by omega)] at hv ⊢;by_cases hs:k<=s/\s<k+u.cells.toList.length
    ·rw [if_pos hs] at hv;rw [if_pos (by omega),show i.toNat*R.size+s-(i.toNat*R.size+k)=s-k by omega]; exact hv
    ·rw [if_neg hs] at hv;rw [if_neg (by omega)];exact hc s v hv
   ·rw [if_neg hy] at hz';obtain⟨ds,d1,d2⟩:=hrow.2 y z' hz';refine⟨ds,d1,fun s v hv=>?_⟩;have hsl:s<R.size:=by rw [<- R.len d1]; exact (cm.1 hv).1
    rw [yr _ _ _ _ (by omega),if_neg]
    ·exact d2 s v hv
    ·rintro⟨r1,r2⟩;rcases xD hy with hlt2 | hlt2
     ·have:(i.toNat+1)*R.size<=y*R.size:=mM _ hlt2;rw [ju] at this; omega
     ·have:(y+1)*R.size<=i.toNat*R.size:=mM _ hlt2;rw [ju] at this; omega
  have hS2:=I.fact (ao R (ov cl (i.toNat*R.size+k) u.cells.toList) (xs.set i.toNat x')) hrows;refine E0 (by simp [execOp,I.ev hX,I.ev hY,hst]) (K' (ov cl (i.toNat*R.size+k) u.cells.toList) _ O ?_);exact hS2.turn hq O (r':=.own (.slice (some ⟨b,off,none⟩) xs.length c) e R.size (ov cl (i.toNat*R.size+k) u.cells.toList)) ⟨hown',hsz⟩ (fun j hj=>.inl hj)
theorem pn {T:Nat->Prop} {D:List cZ} {i:Nat} (hi:D[i]? = some r):∀ k,dT (dT T (D.eraseIdx i)) [r] k↔dT T D k:=by
 intro k;constructor
 ·rintro ((O | ⟨s,hs,O⟩) | ⟨s,hs,O⟩)
  ·exact .inl O
  ·exact .inr ⟨s,K9 hs,O⟩
  ·rw [eU] at hs; subst hs; exact .inr ⟨s,aK hi,O⟩
 ·rintro (O | ⟨s,hs,O⟩)
  ·exact .inl (.inl O)
  ·obtain⟨j,hj,e⟩:=HS hs;by_cases hji:j=i
   ·subst hji;have:s=r:=by rw [<- e]; exact (cm.1 hi).2
    subst this; exact .inr ⟨_,eU.2 rfl,O⟩
   ·refine .inl (.inr ⟨s,?_,O⟩);rw [ot];rcases xD hji with h | h
    ·exact⟨j,by rw [BR,if_pos h,<- e]; exact cQ hj⟩
    ·exact⟨j-1,by rw [BR,if_neg (by omega),show j-1+1=j by omega,<- e]; exact cQ hj⟩
theorem St.zi (h:St W M T n G D F a w) (i:Nat) (hi:D[i]? = some (.box b cs t)):¬ dT T (D.eraseIdx i) b:=by
 rintro (O | ⟨s,hs,O⟩)
 ·exact (h.free _ (aK hi) b rfl).1 O
 ·obtain⟨l1,e1⟩:=cm.1 hi;obtain⟨z,hz⟩:=ot.1 hs;rw [BR] at hz;split at hz
  ·rename_i hzi;have hzl:=(cm.1 hz).1;have:=fJ.1 h.apart z i hzl l1 hzi b (by rw [(cm.1 hz).2]; exact O);rw [e1] at this; exact this rfl
  ·have hzl:=(cm.1 hz).1;have:=fJ.1 h.apart i (z+1) l1 hzl (by omega) b (by rw [e1]; rfl);rw [(cm.1 hz).2] at this; exact this O
theorem aG.lent {i:Nat} (hi:D[i]? = some r) (h:aG R (dT T D) w v xs):aG R (dT (dT T (D.eraseIdx i)) [r]) w v xs :=
 h.sub fun k O=>.inl ((pn hi k).1 O)
theorem aG.back {i:Nat} (hi:D[i]? = some r) (h:aG R (dT (dT T (D.eraseIdx i)) [r']) w v xs):aG R (dT T (D.set i r')) w v xs:=by
 refine h.sub fun k O=>.inl ?_;have hl:=(cm.1 hi).1;have:=(pn (T:=T) (D:=D.set i r') (i:=i) (r:=r') (by rw [Df hl]) k).2 O;rwa [List.eraseIdx_set_eq] at this
theorem St.zb (h:St W M T n G D F a w) (i:Nat) (hi:D[i]? = some (.box b cs t)):w.heap[b]? = some (.cells cs.toArray t (0,0)):=h.own _ (aK hi)
theorem St.boxNew (h:St W No T n G D F a w) (i:Nat) (hi:D[i]? = some (.box b cs t)):W.heap.size<=b:=(h.free _ (aK hi) b rfl).2.resolve_left fun h=>h
end
theorem nR {P:Program} {f:FuncId} {fn:Func} {c:Code} {args:bC} {w:World} {R:Value->World->Prop} (hf:P.funcs[f]? = some fn) (hb:fn.body=some c)
  (T:Nat->Prop) (n:Nat) (hn:fn.ntmps=n) (hT:∀ k,T k->k<w.heap.size) (hl:Nat.ble args.length n=true) {b:Nat} {cs:bC} {t:TypeId} (hrow:w.heap[b]? = some (.cells cs.toArray t (0,0))) (hTb:¬ T b)
  (h:∀ a,St w (fun k=>k=b) T n (mO 0 args) [.box b cs t] [] a w->c.wp P (bodyPost P fn (OZ (fun k=>k=b) w R)) a w):bc P (fun k=>k=b) f args w R:=by
 refine calls_of_wp hf hb (h _ ?_);subst hn;have I:=St.start w (fun k=>k=b) T fn.ntmps args hT (du hl) (mO 0 args) fun t v hv=>by
  obtain⟨h1,h2⟩:=Ap args 0 t v hv;simpa using h2
 exact⟨I.size,I.defers,I.slots,I.base,fun r hr=>by rw [eU] at hr; subst hr; exact hrow,fun r hr k O=>by
  rw [eU] at hr; subst hr;simp only [cZ.dom,cp] at O;subst O; exact⟨hTb,.inl rfl⟩,List.pairwise_singleton _ _,fun f hf=>(by cases hf),hT⟩
section
variable {P:Program} {W:World} {M T:Nat->Prop} {n:Nat} {G:List (Nat×Value)} {D:List cZ} {F:List cD} {a:Act} {w:World} {K:Act->World->Prop}
theorem St.zm {e:Nat} {bt:TypeId} {rs:List cZ} (h:St W (fun k=>k=b) T n G D F a w) (hi:Lf D rs) (i:Nat) (hd:D[i]? = some (.own v e R.size cl)) (j:Nat) (hj:F[j]? = some (ao R cl xs)) (q:Nat) (hq:D[q]? = some (.box b cs bt)) (hne:i≠q):j9 R T W w rs e v cl xs:=by
 have hm:=aK hd;refine⟨(h.own _ hm).1,fun k O=>(h.free _ hm k O).2.resolve_left fun h2=>?_,(h.get j hj:aY R (dT T D) w cl xs).keep (aj _ _) fun k O=>.inl (hi.sub k O)⟩;exact iX (l:=[]) h i hd O q hq rfl hne bU ⟨.blk (some b),eU.2 rfl,congrArg some h2.symm⟩
theorem St.turnAdds {w':World} (h:St W M T n G D F a w) {i:Nat} (hi:D[i]? = some r) (k:Kt (fun j=>r.dom j) w w') (hr:r'.ok w') (hd:∀ j,r'.dom j->r.dom j)
  (rs:List cZ) (h1:∀ r∈rs,r.ok w'/\∀ k,r.dom k->w.heap.size<=k) (h2:rs.Pairwise fun r s=>∀ k,r.dom k->¬ s.dom k):St W M T n G (rs++D.set i r') F a w':=by
 have hb:=h.turn hi k hr (fun j hj=>.inl (hd j hj));have hlt:∀ s∈D.set i r',∀ j,s.dom j->j<w.heap.size/\(dT T D) j:=fun s hs j hj=>by
  rcases List.mem_or_eq_of_mem_set hs with hs | rfl
  ·exact⟨cZ.lt (h.own s hs) j hj,.inr ⟨s,hs,hj⟩⟩
  ·exact⟨cZ.lt (h.own r (aK hi)) j (hd j hj),.inr ⟨r,aK hi,hd j hj⟩⟩
 refine⟨hb.size,hb.defers,hb.slots,hb.base,?_,?_,?_,fun f hf=>f.keep (h.facts f hf) (k.mono fun j hj=>.inr ⟨r,aK hi,hj⟩) (fun j hj=>?_),hb.tlt⟩
 ·intro s hs;rcases de.1 hs with hs | hs
  ·exact (h1 s hs).1
  ·exact hb.own s hs
 ·intro s hs j hj;rcases de.1 hs with hs | hs
  ·have:=(h1 s hs).2 j hj;refine⟨fun ht=>?_,.inr ?_⟩
   ·have:=h.tlt j ht; omega
   ·have:=h.base.size; omega
  ·exact hb.free s hs j hj
 ·refine tv.2 ⟨h2,hb.apart,fun s hs u hu j hj hj2=>?_⟩;have:=(h1 s hs).2 j hj;have:=(hlt u hu j hj2).1;omega
 ·rcases hj with hj | ⟨s,hs,hj⟩
  ·exact .inl (.inl hj)
  ·rcases de.1 hs with hs | hs
   ·exact .inr ((h1 s hs).2 j hj)
   ·exact .inl (hlt s hs j hj).2
theorem iB {i:Nat} (hi:D[i]? = some r) (rs:List cZ) (w:World):Nw (dT (dT T (D.eraseIdx i)) (rs++[r'])) (dT T (rs++D.set i r')) w:=fun k O=>.inl (by
 rcases O with O | ⟨s,hs,O⟩
 ·exact .inl (.inl O)
 ·rcases de.1 hs with hs | hs
  ·exact .inr ⟨s,de.2 (.inl hs),O⟩
  ·have hl:=(cm.1 hi).1;have:=(pn (T:=T) (D:=D.set i r') (i:=i) (r:=r') (by rw [Df hl]) k).2 (.inr ⟨s,hs,O⟩);rw [List.eraseIdx_set_eq] at this;rcases this with this | ⟨u,hu,O⟩
   ·exact .inl this
   ·exact .inr ⟨u,de.2 (.inr hu),O⟩)
theorem oE {d:Nat} {args:Array Operand} {tys:Array TypeId} {f:Nat} {vs:bC} {R:Value->World->Prop} {bt:TypeId} (I:St W M T n G D F a w) (hf:aP P f=true) (hargs:evs G args.toList=some vs) (hn:Nat.blt d n=true) (i:Nat) (hi:D[i]? = some (.box b cs bt)) (hc:bc P (fun k=>k=b) f vs w R)
  (k:∀ v w',R v w'->Kt (fun k=>k=b) w w'->∃ cs' rs,w'.heap[b]? = some (.cells cs'.toArray bt (0,0))/\(∀ r∈rs,r.ok w'/\∀ k,r.dom k->w.heap.size<=k)/\(rs.Pairwise fun r s=>∀ k,r.dom k->¬ s.dom k)/\∀ a,St W M T n ((d,v)::G) (rs++D.set i (.box b cs' bt)) F a w'->K a w'):ru P ⟨some d,.call { callee:=.value (.func f),args:=args,argTypes:=tys },ty,pos,af,g⟩ a w K :=
 we (cap:=[]) rfl I rfl hf hargs (by rw [yF]; exact hc) fun v w' O hr=>by
  obtain⟨cs',rs,h1,h2,h3,h4⟩:=k v w' hr O;exact h4 _ ((I.turnAdds hi (O.mono fun j hj=>by simp [cZ.dom,hj]) (r':=.box b cs' bt) h1 (fun j hj=>hj) rs h2 h3).put hn v)
theorem aY.cut {T:Nat->Prop} {w:World} (h:aY R T w cl xs) {l q:Nat} (h1:l<=q) (h2:q<=xs.length):aY R T w ((cl.take (q*R.size)).drop (l*R.size)) ((xs.take q).drop l):=by
 obtain⟨a1,a2⟩:=h;have hq:q*R.size<=xs.length*R.size:=mM _ h2;refine⟨by simp only [nr,fe,a1]; rw [xF hq,xF h2,Nat.sub_mul],fun k x hx=>?_⟩;rw [vV,s6] at hx;split at hx
 ·rename_i hlt;obtain⟨cs,g1,g2⟩:=a2 _ x hx;refine⟨cs,g1,fun j u hu=>?_⟩;have hj:j<R.size:=by rw [<- R.len g1]; exact (cm.1 hu).1
  have:=g2 j u hu;rw [vV,s6,if_pos]
  ·rwa [show l*R.size+(k*R.size+j)=(l+k)*R.size+j by rw [ju]; omega]
  ·have:(l+k+1)*R.size<=q*R.size:=mM _ (by omega);rw [ju,ju] at this;omega
 ·cases hx
theorem QH {lo hi:Nat} (I:St W M T n G D F a w) (q:Nat) (hq:D[q]? = some (.own v e R.size cl)) (j:Nat) (hj:F[j]? = some (ao R cl xs)) (h1:lo<=hi) (h2:hi<=xs.length) :
  ∃ A c,v = .slice A xs.length c/\xs.length<=c/\c<=maxLen/\St W M T n G (D.set q (.own (.slice (if c=lo then A else A.map (·.add (lo*R.size))) (hi-lo) (c-lo)) e R.size ((cl.take (hi*R.size)).drop (lo*R.size)))) (ao R ((cl.take (hi*R.size)).drop (lo*R.size)) ((xs.take hi).drop lo)::F) a w:=by
 obtain⟨hown,hsz⟩:=I.own _ (aK hq);have hrow:aY R (dT T D) w cl xs:=I.get j hj;have hcut:=hrow.cut h1 h2;rcases hown with⟨rfl,rfl⟩|⟨gb,off,m,cap,row,rfl,p1,p2,p3,p4,p5,p6,p7⟩
 ·have h0:xs.length=0:=by
   have:=hrow.1.symm;rcases Nat.mul_eq_zero.1 this with h | h
   ·exact h
   ·omega
  have e1:lo=0:=by omega
  have e2:hi=0:=by omega
  subst e1 e2;refine⟨none,0,by rw [h0],by omega,bT _,?_⟩;have hs:=(I.fact (ao R _ _) hcut).turn hq (w':=w) (aj _ _) (r':=.own (.slice none 0 0) e R.size []) ⟨.inl ⟨rfl,rfl⟩,hsz⟩ (fun k O=>.inl O);simpa using hs
 ·have hm:m=xs.length:=xG hsz (p1.symm.trans hrow.1);subst hm;refine⟨some ⟨gb,off,none⟩,cap,rfl,p4,p5,?_⟩;refine (I.fact (ao R _ _) hcut).turn hq (w':=w) (aj _ _) ⟨?_,hsz⟩ (fun k O=>.inl ?_)
  ·have U:(if cap=lo then (some ⟨gb,off,none⟩:Option Addr) else (some (⟨gb,off,none⟩:Addr)).map (·.add (lo*R.size)))=some ⟨gb,if cap=lo then off else off+lo*R.size,none⟩:=by
    split <;> simp [oy]
   rw [U];refine .inr ⟨gb,_,_,_,row,rfl,?_,p2,p3,by omega,by omega,?_,?_⟩
   ·have hq2:hi*R.size<=xs.length*R.size:=mM _ h2;simp only [nr,fe,p1]; rw [xF hq2,Nat.sub_mul]
   ·split
    ·rename_i hc; rw [hc,uR]; omega
    ·have hle:lo*R.size<=cap*R.size:=mM _ (by omega);rw [Nat.sub_mul]; omega
   ·intro k u hu;rw [vV,s6] at hu;split at hu
    ·rename_i hlt;have hne:¬ cap=lo:=fun hc=>by
      have:hi=lo:=by omega
      subst this; omega
     rw [if_neg hne];have:=p7 _ u hu;rwa [show off+(lo*R.size+k)=off+lo*R.size+k by omega] at this
    ·cases hu
  ·revert O;simp only [cZ.dom];split <;> simp [Value.ownBlock,oy]
theorem QO {A:Option Addr} {m c:Nat} {lo hi:Int} (I:St W M T n G D F a w) (ht:mW P t=some e) (he:pQ P e=some (ag,sz)) (q1:0<=lo) (q2:lo<=hi) (q3:hi<=m) (p1:m<=c) (hv:v = .slice A m c) {E:Nat->Prop} {olo ohi:Option Operand} {k1 k2:IntKind} (hX:ev G X=some v) (hlo:(∃ x,olo=some x/\ev G x=some (.int k1 lo))∨(olo=none/\lo=0)) (hhi:(∃ x,ohi=some x/\ev G x=some (.int k2 hi))∨(ohi=none/\hi=m)) :
  Ye P ⟨d,.slice t X olo ohi none,ty,pos,af,g⟩ a E w (.slice (if c=lo.toNat then A else A.map (·.add (lo.toNat*sz))) (hi.toNat-lo.toNat) (c-lo.toNat)):=by
 subst hv;refine Ye.of fun w=>?_;have hb:=uF (P:=P) (isS:=true) (k1:=k1) (k2:=k2) q1 q2 q3 p1 w (olo.map a.eval) (ohi.map a.eval)
  (by
    rcases hlo with⟨x,rfl,hx⟩|⟨rfl,rfl⟩
    ·exact .inl (by rw [mg,I.ev hx])
    ·exact .inr ⟨rfl,rfl⟩)
  (by
    rcases hhi with⟨x,rfl,hx⟩|⟨rfl,rfl⟩
    ·exact .inl (by rw [mg,I.ev hx])
    ·exact .inr ⟨rfl,rfl⟩)
 simp [execOp,Instr.sliceAt,Instr.slice,run_underlying (vn ht),I.ev hX,hb,pa he]
theorem xc {ys:List α} {lo hi:Int} (I:St W M T n G D F a w) (ht:mW P t=some e) (he:pQ P e=some (ag,R.size)) (q:Nat) (hq:D[q]? = some (.own v e' R.size cl)) (j:Nat) (hj:F[j]? = some (ao R cl xs)) (hg:tY xs lo hi=some ys) :
  ∃ v',(∀ (T:Nat->Prop) (w:World),aG R T w v xs->aG R T w v' ys)/\(∀ {E:Nat->Prop} {d:Option Nat} {ty:TypeId} {X:Operand} {olo ohi:Option Operand} {pos:String} {af:Array Edge} {g:Option (Nat×Bool)} {k1 k2:IntKind},ev G X=some v->((∃ x,olo=some x/\ev G x=some (.int k1 lo))∨(olo=none/\lo=0))->((∃ x,ohi=some x/\ev G x=some (.int k2 hi))∨(ohi=none/\hi=xs.length))->Ye P ⟨d,.slice t X olo ohi none,ty,pos,af,g⟩ a E w v'):=by
 obtain⟨q1,q2,q3,rfl⟩:=wu hg;obtain⟨A,c,hv,h1,h2,hS'⟩:=QH (lo:=lo.toNat) (hi:=hi.toNat) I q hq j hj (by omega) (by omega);refine⟨_,fun T w h=>?_,fun hX hlo hhi=>QO I ht he q1 q2 q3 h1 hv hX hlo hhi⟩;subst hv;refine h.cut (by omega) (by omega) _ (fun hlt b o U=>?_);rw [if_neg (by omega),U];simp [oy]
end
end
section
open Go.RowKit
variable {r:Nat} {z:Value} {zc:bC}
variable {pos:String} {af:Array Edge} {g:Option (Nat×Bool)}
def cb {κ ν:Type} (RK:aL κ) (ak:Bool) (RV:aL ν) (av:Bool) (T:Nat->Prop) (w:World) (es:Array MapEntry) (xs:List (κ×ν)):Prop :=
 es.size=xs.length/\∀ (i:Nat) (e:MapEntry) (x:κ×ν),es[i]? = some e->xs[i]? = some x->(∃ c,RK.rel T w c x.1/\e.key=bB ak c)/\∃ c,RV.rel T w c x.2/\e.val=bB av c
theorem cb.keep {κ ν:Type} {RK:aL κ} {ak:Bool} {RV:aL ν} {av:Bool} {T T':Nat->Prop} {w w':World} {es:Array MapEntry} {xs:List (κ×ν)} (h:cb RK ak RV av T w es xs) (k:Kt T w w') (hn:Nw T T' w):cb RK ak RV av T' w' es xs :=
 ⟨h.1,fun i e x he hx=>by
  obtain⟨⟨c,h1,h2⟩,d,h3,h4⟩:=h.2 i e x he hx;exact⟨⟨c,RK.keep h1 k hn,h2⟩,d,RV.keep h3 k hn,h4⟩⟩
def qi {κ ν:Type} (RK:aL κ) (ak:Bool) (RV:aL ν) (av:Bool) (es:Array MapEntry) (xs:List (κ×ν)):cD:=⟨fun T w=>cb RK ak RV av T w es xs,fun h k n=>h.keep k n⟩
def uq {κ ν:Type} (q:κ->κ->Bool) (k:κ):List (κ×ν)->Option Nat
 | []=>none
 | x::r=>cond (q k x.1) (some 0) ((uq q k r).map (· + 1))
def dv {κ ν:Type} (q:κ->κ->Bool) (k:κ):List (κ×ν)->Option ν
 | []=>none
 | x::r=>cond (q k x.1) (some x.2) (dv q k r)
def fV {κ ν:Type} (q:κ->κ->Bool) (k:κ) (v:ν):List (κ×ν)->List (κ×ν)
 | []=>[(k,v)]
 | x::r=>cond (q k x.1) ((k,v)::r) (x::fV q k v r)
def td {κ ν:Type} (q:κ->κ->Bool) (k:κ):List (κ×ν)->List (κ×ν)
 | []=>[]
 | x::r=>cond (q k x.1) r (x::td q k r)
theorem rP {κ ν:Type} {q:κ->κ->Bool} {k:κ}:∀ {xs:List (κ×ν)},uq q k xs=none->dv q k xs=none/\(∀ v,fV q k v xs=xs++[(k,v)])/\td q k xs=xs
 | [],_=>⟨rfl,fun _=>rfl,rfl⟩
 | x::r,h=>by
  cases hq:q k x.1 with
  | true=>simp [uq,hq] at h
  | false =>
   simp only [uq,hq,cond_false,Option.map_eq_none_iff] at h;obtain⟨h1,h2,h3⟩:=rP h;exact⟨by simp [dv,hq,h1],fun v=>by simp [fV,hq,h2],by simp [td,hq,h3]⟩
theorem rQ {κ ν:Type} {q:κ->κ->Bool} {k:κ}:∀ {xs:List (κ×ν)} {i:Nat},uq q k xs=some i->∃ x,xs[i]? = some x/\q k x.1=true/\dv q k xs=some x.2/\(∀ v,fV q k v xs=xs.set i (k,v))/\td q k xs=xs.eraseIdx i
 | [],i,h=>by simp [uq] at h
 | x::r,i,h=>by
  cases hq:q k x.1 with
  | true =>
   simp only [uq,hq,cond_true,cp] at h;subst h;exact⟨x,rfl,hq,by simp [dv,hq],fun v=>by simp [fV,hq],by simp [td,hq]⟩
  | false =>
   simp only [uq,hq,cond_false,Option.map_eq_some_iff] at h;obtain⟨j,h1,rfl⟩:=h;obtain⟨y,g1,g2,g3,g4,g5⟩:=rQ h1;exact⟨y,by simpa using g1,g2,by simp [dv,hq,g3],fun v=>by simp [fV,hq,g4],by simp [td,hq,g5]⟩
structure yI {κ:Type} (P:Program) (t:TypeId) (RK:aL κ) (ak:Bool) (q:κ->κ->Bool):Prop where
 check:∀ (b:Bool) (T:Nat->Prop) (w0 w:World) (c:bC) (x:κ),RK.rel T w0 c x->(Instr.checkKey b 10000 t (bB ak c)).run P w = .ok () w
 eq:∀ (T T2:Nat->Prop) (w0 w1 w:World) (c d:bC) (x y:κ),RK.rel T w0 c x->RK.rel T2 w1 d y->(Op.equal t (bB ak c) (bB ak d)).run P w = .ok (q x y) w
 now:∃ kind,P.underlying t=some kind/\∀ (T T2:Nat->Prop) (w0 w1:World) (c d:bC) (x y:κ),RK.rel T w0 c x->RK.rel T2 w1 d y->Instr.sameNow kind (bB ak c) (bB ak d)=none∨Instr.sameNow kind (bB ak c) (bB ak d)=some (q x y)
 bits:∀ (T T2:Nat->Prop) (w0 w1:World) (c d:bC) (x y:κ),RK.rel T w0 c x->RK.rel T2 w1 d y->q x y=true->Instr.sameBits 10000 (bB ak d) (bB ak c)=true
def Am (es:List MapEntry) (i0:Nat):Option Nat->Option (Nat×Value)
 | none=>none
 | some j=>(es[j]?).map fun e=>(i0+j,e.val)
theorem Eu (e:MapEntry) (es:List MapEntry) (i0:Nat) (o:Option Nat):Am (e::es) i0 (o.map (· + 1))=Am es (i0+1) o:=by
 cases o with
 | none=>rfl
 | some j=>simp only [Am,mg,Dd]; rw [show i0+(j+1)=i0+1+j by omega]
section
variable {κ ν:Type} {P:Program} {t:TypeId} {RK:aL κ} {ak:Bool} {q:κ->κ->Bool} {T T2:Nat->Prop} {w0 w1:World} {c:bC} {k:κ}
theorem AE (hK:yI P t RK ak q) (hc:RK.rel T2 w1 c k) (w:World):∀ (es:List MapEntry) (xs:List (κ×ν)) (i0:Nat),es.length=xs.length->(∀ (i:Nat) (e:MapEntry) (x:κ×ν),es[i]? = some e->xs[i]? = some x->∃ c,RK.rel T w0 c x.1/\e.key=bB ak c)->(Instr.findAsking t (bB ak c) es i0).run P w = .ok (Am es i0 (uq q k xs)) w
 | [],[],i0,_,_=>rfl
 | [],_::_,i0,h,_=>by simp at h
 | _::_,[],i0,h,_=>by simp at h
 | e::es,x::xs,i0,h,hr=>by
  obtain⟨d,h1,h2⟩:=hr 0 e x rfl rfl;have he:=hK.eq _ _ _ _ w _ _ _ _ hc h1;have ih:=AE hK hc w es xs (i0+1) (by simpa using h) fun i e' x' a b=>hr (i+1) e' x' (by simpa using a) (by simpa using b);unfold Instr.findAsking;rw [h2,Sem.run_bind,he,Result.andThen_ok];unfold uq;cases hq:q k x.1 with
  | true=>simp [Am]
  | false =>
   rw [cond_false,Eu];simpa using ih
theorem Hh (hK:yI P t RK ak q) (hc:RK.rel T2 w1 c k) {kind:TypeDesc} (hn:∀ (T T2:Nat->Prop) (w0 w1:World) (c d:bC) (x y:κ),RK.rel T w0 c x->RK.rel T2 w1 d y->Instr.sameNow kind (bB ak c) (bB ak d)=none∨Instr.sameNow kind (bB ak c) (bB ak d)=some (q x y)) :
  ∀ (es:List MapEntry) (xs:List (κ×ν)) (i0:Nat),es.length=xs.length->(∀ (i:Nat) (e:MapEntry) (x:κ×ν),es[i]? = some e->xs[i]? = some x->∃ c,RK.rel T w0 c x.1/\e.key=bB ak c)->Instr.findNow kind (bB ak c) es i0=none∨Instr.findNow kind (bB ak c) es i0=some (Am es i0 (uq q k xs))
 | [],[],i0,_,_=>.inr rfl
 | [],_::_,i0,h,_=>by simp at h
 | _::_,[],i0,h,_=>by simp at h
 | e::es,x::xs,i0,h,hr=>by
  obtain⟨d,h1,h2⟩:=hr 0 e x rfl rfl;have ih:=Hh hK hc hn es xs (i0+1) (by simpa using h) fun i e' x' a b=>hr (i+1) e' x' (by simpa using a) (by simpa using b);unfold Instr.findNow;rw [h2];rcases hn _ _ _ _ _ _ _ _ hc h1 with h3 | h3
  ·rw [h3]; exact .inl rfl
  ·rw [h3];unfold uq;cases hq:q k x.1 with
   | true=>right; simp [Am]
   | false=>rw [cond_false,Eu]; exact ih
theorem r9 (hK:yI P t RK ak q) (hc:RK.rel T2 w1 c k) (w:World) {es:List MapEntry} {xs:List (κ×ν)} (h:es.length=xs.length) (hr:∀ (i:Nat) (e:MapEntry) (x:κ×ν),es[i]? = some e->xs[i]? = some x->∃ c,RK.rel T w0 c x.1/\e.key=bB ak c):(Instr.findKey t (bB ak c) es).run P w = .ok (Am es 0 (uq q k xs)) w:=by
 obtain⟨kind,hu,hn⟩:=hK.now;unfold Instr.findKey;rw [Sem.run_bind,run_underlying hu,Result.andThen_ok];rcases Hh (T:=T) (w0:=w0) (ν:=ν) hK hc hn es xs 0 h hr with h3 | h3
 ·rw [h3]; exact AE hK hc w es xs 0 h hr
 ·rw [h3]; rfl
end
theorem xg {P:Program} {w:World} {es:Array MapEntry} {clock:Nat} (hb:w.heap[r]? = some (.map es clock)):(getObj r).run P w = .ok (.map es clock) w:=by
 simp [getObj,Sem.run,hb]
theorem D7 {P:Program} {w:World} {es:Array MapEntry} {clock:Nat} (o:Obj) (hb:w.heap[r]? = some (.map es clock)):(setObj r o).run P w = .ok () { w with heap:=w.heap.setIfInBounds r o }:=by
 simp [setObj,Sem.run,hb]
theorem qU {w:World} {o o':Obj} (hb:w.heap[r]? = some o):(w.heap.setIfInBounds r o')[r]? = some o'/\∀ r',r'≠r->(w.heap.setIfInBounds r o')[r']? = w.heap[r']?:=by
 have hlt:r<w.heap.size:=(Cv.1 hb).1;exact⟨by simp [hlt],fun r' hne=>by simp [Ne.symm hne]⟩
def Ip (P:Program) (t:TypeId):Option (TypeId×TypeId):=match P.underlying t with
 | some (.map k e)=>some (k,e)
 | _=>none
theorem nA {P:Program} {t k e:TypeId} (h:Ip P t=some (k,e)):P.underlying t=some (.map k e):=by
 unfold Ip at h;split at h
 ·rename_i a b hu;simp only [cp,xH] at h;obtain⟨rfl,rfl⟩:=h;exact hu
 ·cases h
def NF (P:Program) (t:TypeId):Option Value:=match P.info? t with
 | some i=>i.zero
 | none=>none
theorem Ei {P:Program} {t:TypeId} (h:NF P t=some z) (w:World):(zeroValue t).run P w = .ok z w:=by
 unfold NF at h;split at h
 ·rename_i i hi;simp [zeroValue,typeInfo,hi,h]
 ·cases h
section
variable {κ ν:Type} {P:Program} {W:World} {M T E:Nat->Prop} {n:Nat} {G G':List (Nat×Value)} {D D':List cZ} {F F':List cD} {a:Act} {w w':World} {K:Act->World->Prop}
variable {kt et:TypeId} {RK:aL κ} {ak:Bool} {RV:aL ν} {av:Bool} {q:κ->κ->Bool} {b clock:Nat} {es:Array MapEntry} {xs:List (κ×ν)}
theorem St.mapOk (I:St W M T n G D F a w) (j:Nat) (hj:F[j]? = some (qi RK ak RV av es xs)):cb RK ak RV av (dT T D) w es xs:=I.get j hj
theorem wm {T:Nat->Prop} {w:World} (h:cb RK ak RV av T w es xs):es.toList.length=xs.length/\∀ (i:Nat) (e:MapEntry) (x:κ×ν),es.toList[i]? = some e->xs[i]? = some x->∃ c,RK.rel T w c x.1/\e.key=bB ak c :=
 ⟨by simpa using h.1,fun i e x he hx=>(h.2 i e x (by simpa using he) hx).1⟩
theorem sS {d:Nat} {t ty:TypeId} (RK:aL κ) (ak:Bool) (RV:aL ν) (av:Bool) (I:St W M T n G D F a w) (hn:Nat.blt d n=true)
  (k:∀ b,w.heap.size<=b->∀ a w',Kt No w w'->St W M T n ((d,.map (some b))::G) (.obj b (.map #[] 0)::D) (qi RK ak RV av #[] []::F) a w'->K a w'):ru P ⟨some d,.makeMap t none,ty,pos,af,g⟩ a w K:=by
 have hr:(execOp a.eval ⟨some d,.makeMap t none,ty,pos,af,g⟩).run P w = .ok (.value (.map (some w.heap.size))) (w.alloc (.map #[] 0)):=by
  simp [execOp,Instr.makeMap]
 refine A7 hr (k w.heap.size (bZ _) _ _ (Kt.alloc _ _) ?_);exact ((I.add (Kt.alloc _ _) (.obj w.heap.size (.map #[] 0)) (heap_alloc_new w _) (fun k O=>by simp only [cZ.dom,cp] at O; omega)).fact (qi RK ak RV av #[] []) ⟨rfl,fun i e x he hx=>by simp at he⟩).put hn _
theorem E5 {t:TypeId} (ht:Ip P t=some (kt,et)) (hK:yI P kt RK ak q) {T T2:Nat->Prop} {w w0 w1:World} (hr:w.heap[b]? = some (.map es clock)) (hm:cb RK ak RV av T w0 es xs) {c:bC} {key:κ} (hc:RK.rel T2 w1 c key) {z0:ν} (hz:NF P et=some z) (hzc:z=bB av zc) (hz0:RV.rel T w0 zc z0) :
  ∃ cv,RV.rel T w0 cv ((dv q key xs).getD z0)/\(∀ ok,(Instr.lookup t (.map (some b)) (bB ak c) ok).run P w = .ok (if ok then .tuple #[bB av cv,.bool (dv q key xs).isSome] else bB av cv) w)/\True:=by
 obtain⟨hl,hkeys⟩:=wm hm;have hf:=r9 hK hc w hl hkeys;have hch:∀ e,(Instr.checkKey e 10000 kt (bB ak c)).run P w = .ok () w:=fun e=>hK.check e _ _ w _ _ hc;have hzr:=Ei (P:=P) hz w;cases hp:uq q key xs with
 | none =>
  obtain⟨g1,_,_⟩:=rP hp;rw [hp] at hf;refine⟨zc,by rw [g1]; exact hz0,fun ok=>?_,trivial⟩;cases ok <;> simp [Instr.lookup,run_underlying (nA ht),xg hr,hch,hf,Am,hzr,hzc,g1]
 | some i =>
  obtain⟨x,hx,_,g1,_,_⟩:=rQ hp;rw [hp] at hf;have hi:i<es.toList.length:=by rw [hl]; exact (cm.1 hx).1
  have he:es.toList[i]? = some es.toList[i]:=cQ hi;obtain⟨_,cv,h3,h4⟩:=hm.2 i _ x (by rw [<- Array.getElem?_toList]; exact he) hx;refine⟨cv,by rw [g1]; exact h3,fun ok=>?_,trivial⟩;have hat:Am es.toList 0 (some i)=some (i,es.toList[i].val):=by simp only [Am,he,mg,n4]
  rw [hat] at hf;cases ok <;> simp only [Instr.lookup,Sem.run_bind,run_underlying (nA ht),Result.andThen_ok,xg hr,hch,hf,h4,g1,Sem.run_pure,Option.isSome_some,HL,if_false,if_true]
theorem NZ {t:TypeId} (I:St W M T n G D F a w) (ht:Ip P t=some (kt,et)) (hK:yI P kt RK ak q) (i:Nat) (hi:D[i]? = some (.obj b (.map es clock))) (j:Nat) (hj:F[j]? = some (qi RK ak RV av es xs)) {c:bC} {key:κ} (hc:RK.rel (dT T D) w c key) {z0:ν} (hz:NF P et=some z) (hzc:z=bB av zc) (hz0:RV.rel (dT T D) w zc z0) :
  ∃ cv,RV.rel (dT T D) w cv ((dv q key xs).getD z0)/\(∀ {E:Nat->Prop} {d:Option Nat} {X Y:Operand} {ok:Bool} {ty:TypeId} {pos:String} {af:Array Edge} {g:Option (Nat×Bool)},ev G X=some (.map (some b))->ev G Y=some (bB ak c)->¬ E b ->
   Ye P ⟨d,.lookup t X Y ok,ty,pos,af,g⟩ a E w (if ok then .tuple #[bB av cv,.bool (dv q key xs).isSome] else bB av cv)):=by
 have hr:w.heap[b]? = some (.map es clock):=I.own _ (aK hi);have hm:=I.mapOk j hj;obtain⟨cv,h1,h2,_⟩:=E5 (P:=P) ht hK hr hm hc hz hzc hz0;refine⟨cv,h1,fun hX hY hE w' O=>?_⟩;have hr':=(O.block b (Cv.1 hr).1 hE).trans hr;obtain⟨cv2,h3,h4,_⟩:=E5 (P:=P) ht hK hr' hm hc hz hzc hz0;have e1:=I.ev hX;have e2:=I.ev hY;have hrun:∀ ok,(Instr.lookup t (.map (some b)) (bB ak c) ok).run P w' = .ok (if ok then .tuple #[bB av cv,.bool (dv q key xs).isSome] else bB av cv) w':=fun ok=>by
  obtain⟨hl,hkeys⟩:=wm hm;have a1:=h2 ok;have hf:=r9 hK hc w hl hkeys;have hf':=r9 hK hc w' hl hkeys;have hch:∀ e (w:World),(Instr.checkKey e 10000 kt (bB ak c)).run P w = .ok () w:=fun e w=>hK.check e _ _ w _ _ hc;have hzr:=Ei (P:=P) hz;revert a1;cases hp:Am es.toList 0 (uq q key xs) with
  | none =>
   rw [hp] at hf hf';cases ok <;> simp [Instr.lookup,run_underlying (nA ht),xg hr,xg hr',hch,hf,hf',hzr]
  | some y =>
   rw [hp] at hf hf';cases ok <;> simp [Instr.lookup,run_underlying (nA ht),xg hr,xg hr',hch,hf,hf']
 simp [execOp,e1,e2,hrun]
theorem mi {t:TypeId} (I:St W M T n G D F a w) (ht:Ip P t=some (kt,et)) (hK:yI P kt RK ak q) (i:Nat) (hi:D[i]? = some (.obj b (.map es clock))) (j:Nat) (hj:F[j]? = some (qi RK ak RV av es xs)) {c:bC} {key:κ} (hc:RK.rel (dT T D) w c key) {z0 u:ν} (hz:NF P et=some z) (hzc:z=bB av zc) (hz0:RV.rel (dT T D) w zc z0) (hu:some ((dv q key xs).getD z0)=some u) :
  ∃ cv,RV.rel (dT T D) w cv u/\(∀ {E:Nat->Prop} {d:Option Nat} {X Y:Operand} {ok:Bool} {ty:TypeId} {pos:String} {af:Array Edge} {g:Option (Nat×Bool)},ev G X=some (.map (some b))->ev G Y=some (bB ak c)->¬ E b ->
   Ye P ⟨d,.lookup t X Y ok,ty,pos,af,g⟩ a E w (if ok then .tuple #[bB av cv,.bool (dv q key xs).isSome] else bB av cv)):=by
 obtain rfl:=cJ hu;exact NZ I ht hK i hi j hj hc hz hzc hz0
theorem q9 {w:World} {b:Nat} {o o':Obj} (hr:w.heap[b]? = some o):Kt (fun k=>some b=some k) w { w with heap:=w.heap.setIfInBounds b o' } :=
 ⟨rfl,rfl,rfl,by simp,fun k _ hn=>(qU (o':=o') hr).2 k fun e=>hn (by rw [e])⟩
theorem A5 {t ty:TypeId} {X Y Z:Operand} (I:St W M T n G D F a w) (ht:Ip P t=some (kt,et)) (hK:yI P kt RK ak q) (i:Nat) (hi:D[i]? = some (.obj b (.map es clock))) (j:Nat) (hj:F[j]? = some (qi RK ak RV av es xs))
  {c cv:bC} {key:κ} {val:ν} (hc:RK.rel (dT T D) w c key) (hv:RV.rel (dT T D) w cv val) (hX:ev G X=some (.map (some b))) (hY:ev G Y=some (bB ak c)) (hZ:ev G Z=some (bB av cv))
  (k:∀ es' ck' w',Kt (fun j=>j=b) w w'->St W M T n G (D.set i (.obj b (.map es' ck'))) (qi RK ak RV av es' (fV q key val xs)::F) a w'->K a w'):ru P ⟨none,.mapUpdate t X Y Z,ty,pos,af,g⟩ a w K:=by
 have hr:w.heap[b]? = some (.map es clock):=I.own _ (aK hi);have hm:=I.mapOk j hj;obtain⟨hl,hkeys⟩:=wm hm;have hf:=r9 hK hc w hl hkeys;have hch:=hK.check false _ _ w _ _ hc;have fin:∀ es' ck',(Instr.mapUpdate t (.map (some b)) (bB ak c) (bB av cv)).run P w = .ok () { w with heap:=w.heap.setIfInBounds b (.map es' ck') }->cb RK ak RV av (dT T D) w es' (fV q key val xs)->ru P ⟨none,.mapUpdate t X Y Z,ty,pos,af,g⟩ a w K:=fun es' ck' hrun hok=>by
  refine E0 (w':={ w with heap:=w.heap.setIfInBounds b (.map es' ck') }) (by simp [execOp,I.ev hX,I.ev hY,I.ev hZ,hrun]) (k es' ck' _ ((q9 hr).mono fun j hj=>(cJ hj).symm) ?_);exact (I.fact (qi RK ak RV av es' _) hok).turn hi (q9 hr) (r':=.obj b (.map es' ck')) (qU hr).1 fun j hj=>.inl hj
 cases hp:uq q key xs with
 | none =>
  obtain⟨_,g2,_⟩:=rP hp;rw [hp] at hf;refine fin (es.push { key:=bB ak c,val:=bB av cv,born:=clock }) (clock+1) ?_ ⟨by rw [g2]; simp [hm.1],fun z e x he hx=>?_⟩
  ·simp [Instr.mapUpdate,run_underlying (nA ht),xg hr,hch,hf,Am,D7 _ hr]
  ·rw [g2] at hx;by_cases hz:z<xs.length
   ·rw [pp hz] at hx;rw [ON (by rw [hm.1]; exact hz)] at he;exact hm.2 z e x (by rw [<- he]; exact (Al _)) hx
   ·rw [sL (by omega)] at hx;obtain rfl:z=xs.length:=by
     rcases iz xs.length z with h | h
     ·rw [HQ (by simp; omega)] at hx; cases hx
     ·omega
    simp at hx;subst hx;rw [<- hm.1,ME] at he;simp only [cp] at he;subst he;exact⟨⟨c,hc,rfl⟩,cv,hv,rfl⟩
 | some p =>
  obtain⟨x0,hx0,hq0,_,g2,_⟩:=rQ hp;have hpi:p<es.size:=by rw [hm.1]; exact (cm.1 hx0).1
  have he0:es[p]? = some es[p]:=Al hpi;obtain⟨⟨d0,hd0,hk0⟩,_⟩:=hm.2 p _ x0 he0 hx0;have hbits:=hK.bits _ _ _ _ _ _ _ _ hc hd0 hq0;rw [hp] at hf;refine fin (es.modify p fun e=>{ e with key:=bB ak c,val:=bB av cv }) clock ?_ ⟨by rw [g2]; simp [hm.1],fun z e x he hx=>?_⟩
  ·have hat:Am es.toList 0 (some p)=some (p,es[p].val):=by simp [Am,he0]
   rw [hat] at hf;have hkt:(Instr.keyThatStays (((es[p]?).map (·.key)).getD (bB ak c)) (bB ak c)).run P w = .ok (bB ak c) w:=by
    rw [he0];simp only [mg,zw,hk0,Instr.keyThatStays,hbits,if_true,Sem.run_pure]
   simp only [Instr.mapUpdate,Sem.run_bind,run_underlying (nA ht),Result.andThen_ok,xg hr,hch,hf,hkt,D7 _ hr]
  ·rw [g2] at hx;by_cases hz:p=z
   ·subst hz;rw [Df (by rw [<- hm.1]; exact hpi)] at hx;simp only [cp] at hx;subst hx;rw [FI,if_pos rfl,he0] at he;simp only [mg,cp] at he;subst he;exact⟨⟨c,hc,rfl⟩,cv,hv,rfl⟩
   ·rw [List.getElem?_set_ne hz] at hx;rw [FI,if_neg hz] at he;exact hm.2 z e x he hx
end
end
section
open Go.RowKit
variable {pos:String} {af:Array Edge} {g:Option (Nat×Bool)}
def MD (D0:List cZ):Nat->Prop:=fun k=>∃ r∈D0,r.dom k
structure rJ (T:Nat->Prop) (w:World) (D0:List cZ):Prop where
 own:∀ r∈D0,r.ok w
 free:∀ r∈D0,∀ k,r.dom k->¬ T k
 apart:D0.Pairwise fun r s=>∀ k,r.dom k->¬ s.dom k
structure gk (W w:World) (D0 rs:List cZ):Prop where
 own:∀ r∈rs,r.ok w
 from_:∀ r∈rs,∀ k,r.dom k->MD D0 k∨W.heap.size<=k
 apart:rs.Pairwise fun r s=>∀ k,r.dom k->¬ s.dom k
theorem cT {P:Program} {f:FuncId} {fn:Func} {c:Code} {args:bC} {w:World} {R:Value->World->Prop} {D0:List cZ} (hf:P.funcs[f]? = some fn) (hb:fn.body=some c)
  (T:Nat->Prop) (n:Nat) (hn:fn.ntmps=n) (hT:∀ k,T k->k<w.heap.size) (hl:Nat.ble args.length n=true) (hD:rJ T w D0)
  (h:∀ a,St w (MD D0) T n (mO 0 args) D0 [] a w->c.wp P (bodyPost P fn (OZ (MD D0) w R)) a w):bc P (MD D0) f args w R:=by
 refine calls_of_wp hf hb (h _ ?_);subst hn;have I:=St.start w (MD D0) T fn.ntmps args hT (du hl) (mO 0 args) fun t v hv=>by
  obtain⟨h1,h2⟩:=Ap args 0 t v hv;simpa using h2
 exact⟨I.size,I.defers,I.slots,I.base,hD.own,fun r hr k O=>⟨hD.free r hr k O,.inl ⟨r,hr,O⟩⟩,hD.apart,fun f hf=>(by cases hf),hT⟩
section
variable {P:Program} {W:World} {M T E:Nat->Prop} {n:Nat} {G G':List (Nat×Value)} {D D' D0 Dr rs:List cZ} {F F':List cD} {a:Act} {w w':World} {K:Act->World->Prop}
theorem St.zd (I:St W (MD D0) T n G rs F a w):gk W w D0 rs:=⟨I.own,fun r hr k O=>(I.free r hr k O).2,I.apart⟩
theorem St.reD (I:St W M T n G D F a w) (is:List Nat) (hn:is.Nodup) (hd:ou D is D'):St W M T n G D' F a w :=
 I.res (fun r hr=>hd.mem r hr) (hd.pw I.apart hn)
theorem St.dok (I:St W M T n G (D0++Dr) F a w):rJ (dT T Dr) w D0:=by
 obtain⟨h1,h2,h3⟩:=tv.1 I.apart;refine⟨fun r hr=>I.own r (mD _ hr),fun r hr k O ht=>?_,h1⟩;rcases ht with ht | ⟨s,hs,hk2⟩
 ·exact (I.free r (mD _ hr) k O).1 ht
 ·exact h3 r hr s hs k O hk2
theorem EH:∀ k,dT (dT T Dr) D0 k↔dT T (D0++Dr) k:=fun k=>by
 unfold dT;constructor
 ·rintro ((h | ⟨r,hr,O⟩) | ⟨r,hr,O⟩)
  ·exact .inl h
  ·exact .inr ⟨r,vW _ hr,O⟩
  ·exact .inr ⟨r,mD _ hr,O⟩
 ·rintro (h | ⟨r,hr,O⟩)
  ·exact .inl (.inl h)
  ·rcases de.1 hr with hr | hr
   ·exact .inr ⟨r,hr,O⟩
   ·exact .inl (.inr ⟨r,hr,O⟩)
theorem St.getD (I:St W M T n G (D0++Dr) F a w) (i:Nat) {f:cD} (hi:F[i]? = some f):f.p (dT (dT T Dr) D0) w :=
 f.keep (I.get i hi) (aj _ _) fun k O=>.inl ((EH k).1 O)
theorem St.zt (I:St W M T n G (D0++Dr) F a w):∀ k,dT T Dr k->k<w.heap.size:=fun k O=>I.dlt k (by
 rcases O with h | ⟨r,hr,h⟩
 ·exact .inl h
 ·exact .inr ⟨r,vW _ hr,h⟩)
theorem aq (w:World):Nw (dT (dT T Dr) rs) (dT T (rs++Dr)) w:=fun k O=>.inl ((EH k).2 O)
theorem St.swapD (I:St W M T n G (D0++Dr) F a w) (O:Kt (MD D0) w w') (hN:gk w w' D0 rs):St W M T n G (rs++Dr) F a w':=by
 obtain⟨h1,h2,h3⟩:=tv.1 I.apart;have m0:∀ k,MD D0 k->¬ T k/\(M k∨W.heap.size<=k)/\dT T (D0++Dr) k/\k<w.heap.size:=fun k ⟨r,hr,O⟩=>by
  have:=I.free r (mD _ hr) k O;exact⟨this.1,this.2,.inr ⟨r,mD _ hr,O⟩,cZ.lt (I.own r (mD _ hr)) k O⟩
 have hr0:∀ s∈Dr,∀ k,s.dom k->¬ MD D0 k/\k<w.heap.size:=fun s hs k O=>⟨fun ⟨r,hr,hk2⟩=>h3 r hr s hs k hk2 O,cZ.lt (I.own s (vW _ hs)) k O⟩;have hsz:=I.base.size;refine⟨I.size,I.defers,I.slots,I.base.step O fun k h=>(m0 k h).2.1,fun r hr=>?_,fun r hr k hkd=>?_,tv.2 ⟨hN.apart,h2,fun r hr s hs k hkr hks=>?_⟩,fun f hf=>f.keep (I.facts f hf) (O.mono fun k h=>(m0 k h).2.2.1) fun k hkd=>?_,fun k h=>xC (I.tlt k h) O.size⟩
 ·rcases de.1 hr with hr | hr
  ·exact hN.own r hr
  ·exact cZ.keep (I.own r (vW _ hr)) fun k hkd=>O.block k (hr0 r hr k hkd).2 (hr0 r hr k hkd).1
 ·rcases de.1 hr with hr | hr
  ·rcases hN.from_ r hr k hkd with h | h
   ·exact⟨(m0 k h).1,(m0 k h).2.1⟩
   ·exact⟨fun ht=>by have:=I.tlt k ht; omega,.inr (by omega)⟩
  ·exact I.free r (vW _ hr) k hkd
 ·have h4:=hr0 s hs k hks;rcases hN.from_ r hr k hkr with h | h
  ·exact h4.1 h
  ·omega
 ·rcases hkd with h | ⟨r,hr,hkd⟩
  ·exact .inl (.inl h)
  ·rcases de.1 hr with hr | hr
   ·rcases hN.from_ r hr k hkd with h | h
    ·exact .inl (m0 k h).2.2.1
    ·exact .inr h
   ·exact .inl (.inr ⟨r,vW _ hr,hkd⟩)
theorem aZ {d:Nat} {ty:TypeId} {args:Array Operand} {tys:Array TypeId} {f:Nat} {vs:bC} {R:Value->World->Prop} (I:St W M T n G (D0++Dr) F a w) (hf:aP P f=true) (hargs:evs G args.toList=some vs) (hn:Nat.blt d n=true) (hc:bc P (MD D0) f vs w R)
  (k:∀ v w',R v w'->∀ a,Kt (MD D0) w w'->(∀ rs,gk w w' D0 rs->St W M T n ((d,v)::G) (rs++Dr) F a w')->K a w'):ru P ⟨some d,.call { callee:=.value (.func f),args:=args,argTypes:=tys },ty,pos,af,g⟩ a w K :=
 we (cap:=[]) rfl I rfl hf hargs (by rw [yF]; exact hc) fun v w' O hr=>k v w' hr _ O (fun rs h=>(I.swapD O h).put hn v)
end
end
section
open Go.RowKit
variable {d:Option Nat} {t ty:TypeId} {x:Operand}
variable {pos:String} {af:Array Edge} {g:Option (Nat×Bool)}
def cr (s:ByteArray):List Int:=s.toList.map fun c=>(c.toNat:Int)
def aX (l:List Int):ByteArray:=⟨(l.map fun n=>UInt8.ofNat n.toNat).toArray⟩
def rI (k:IntKind) (x n:Int):Int:=k.wrap (x*2 ^ (min n.toNat k.bits))
def ji (k:IntKind) (x n:Int):Int:=x.fdiv (2 ^ (min n.toNat k.bits))
theorem cM (s:ByteArray):(cr s).length=s.size:=by
 unfold cr;rw [pq,ByteArray.toList_eq]; rfl
theorem BD (s:ByteArray):Lib.strCells s=(cr s).map (Value.int .u8):=by
 unfold Lib.strCells cr;rw [ByteArray.toList_eq,zU]; rfl
theorem Bw (T:Nat->Prop) (w:World):∀ (l:List Int),aY (aL.int .u8) T w (l.map (Value.int .u8)) l
 | l=>⟨by simp [aL.int],fun k x hx=>⟨[.int .u8 x],rfl,fun j u hu=>by
  cases j with
  | zero=>simp only [De,cp] at hu; subst hu; simp [aL.int,hx]
  | succ j=>simp at hu⟩⟩
theorem Cp {T:Nat->Prop} {w:World} {cl:bC} {l:List Int} (h:aY (aL.int .u8) T w cl l):cl=l.map (Value.int .u8):=by
 obtain⟨h1,h2⟩:=h;have h1:cl.length=l.length:=by simpa [aL.int] using h1
 apply List.ext_getElem (by simpa using h1);intro i hi hj;have hi':i<l.length:=by omega
 obtain⟨cs,h3,h4⟩:=h2 i _ (cQ hi');have h3:cs=[.int .u8 l[i]]:=h3;subst h3;have:=h4 0 _ rfl;have hs:(aL.int .u8).size=1:=rfl;rw [hs,Nat.mul_one,pd,cQ hi] at this;simp only [cp] at this;rw [this]; simp
section
variable {P:Program}
theorem wD (w:World) (t u ty e:TypeId) (i:TypeInfo) (ht:P.underlying t=some (.slice e)) (hu:P.underlying u=some .string) (hi:P.info? e=some i) (hs1:i.size=1)
  (b off sLen sCap:Nat) (s:ByteArray) (hroom:sLen+s.size<=sCap) (hc:∀ j,j<s.size->(w.cell? ⟨b,off+sLen+j,none⟩).isSome=true) (hf:∀ j,j<s.size->w.frozen? ⟨b,off+sLen+j,none⟩=false) :
  (Builtin.append_ #[t,u] ty #[.slice (some ⟨b,off,none⟩) sLen sCap,.string s]).run P w = .ok (.slice (some ⟨b,off,none⟩) (sLen+s.size) sCap) (w.setCells b (off+sLen) (Lib.strCells s)):=by
 have hfc:=Lib.run_firstCells_string (P:=P) w 1 s;have hst:=run_storeCells_cells (P:=P) b (off+sLen) (Lib.strCells s) 0 w (by simpa [Lib.strCells_length] using hc) (by simpa [Lib.strCells_length] using hf) (Lib.strCells_oneCell s);simp only [pd] at hst;simp [Builtin.append_,run_underlying ht,run_underlying hu,sizeOf,typeInfo,hi,hs1,Builtin.lenOf,hroom,hfc,Addr.add_lit,hst]
theorem Bz (w:World) (t u ty e:TypeId) (E:Le P t e 1 1) (hu:P.underlying u=some .string) (v:Value) (xs:bC) (hown:pi w 0 e 1 v xs) (s:ByteArray) (h63:xs.length+s.size<=140737488355328) :
  ∃ v' w',(Builtin.append_ #[t,u] ty #[v,.string s]).run P w = .ok v' w'/\pi w' 0 e 1 v' (xs++Lib.strCells s)/\w.grownBy w' v.ownBlock/\(v'.ownBlock=v.ownBlock∨v'.ownBlock=some w.heap.size):=by
 obtain⟨ht,⟨i,z,hi,hz,hsize,hby,hzs⟩,hpos⟩:=E;have hsl:=Lib.strCells_length s;have grown:∀ (old n:Nat),xs.length=n->old<n+s.size ->
   pi (w.drew.alloc (.cells (xs.toArray++(Lib.strCells s).toArray++Builtin.zeroCells z.cells (grownCap w (n+s.size) old e-(n+s.size))) e)) 0 e 1
    (.slice (some ⟨w.heap.size,0,none⟩) (n+s.size) (grownCap w (n+s.size) old e)) (xs++Lib.strCells s):=by
  intro old n hx ho;have hge:=grownCap_ge w (n+s.size) old e;have hcm:grownCap w (n+s.size) old e<=maxLen:=grownCap_le_maxLen w (n+s.size) old e (by unfold maxLen; omega);refine .inr ⟨w.heap.size,0,n+s.size,_,_,rfl,by rw [bm,hx,hsl]; omega,bT _,.of (heap_alloc_new w.drew _),hge,hcm,?_,?_⟩
  ·simp only [Array.size_append,Ed,size_zeroCells,hzs,hx,hsl];omega
  ·intro j u hu;rw [n4,MB (by
    have:=(cm.1 hu).1;simpa using this)]
   simpa using hu
 rcases hown with⟨rfl,rfl⟩|⟨g,off,n,cap,cs,rfl,a1,hb,hg,hnc,hc,hsz,hcs⟩
 ·by_cases h0:s.size=0
  ·have hn:Lib.strCells s=[]:=BQ (by rw [hsl]; exact h0);refine⟨.slice none 0 0,w,?_,.inl ⟨rfl,by rw [hn]; rfl⟩,World.grownBy.refl w _,.inl rfl⟩;have hfc:=Lib.run_firstCells_string (P:=P) w 1 s;rw [h0] at hfc;simp [Builtin.append_,run_underlying ht,run_underlying hu,sizeOf,typeInfo,hi,hsize,Builtin.lenOf,h0,hfc,storeCells]
  ·have hr:=run_append_nil_string (P:=P) w t u ty e i z ht hu hi hz s (by omega) (by simp at h63; omega) (by simp at h63; rw [hby]; omega);have hgr:=grown 0 0 rfl (by omega);have he:s.data.map (fun b=>Value.int .u8 b.toNat)=(Lib.strCells s).toArray:=by unfold Lib.strCells; apply Array.ext'; simp
   simp only [n4,Array.empty_append] at hgr;rw [he] at hr;refine⟨_,_,hr,?_,⟨rfl,rfl,rfl,by simp,fun k O _=>Below.heap_alloc w.drew _ k O⟩,.inr rfl⟩;simpa using hgr
 ·have hn:n=xs.length:=by omega
  by_cases hroom:n+s.size<=cap
  ·have hr:=wD (P:=P) w t u ty e i ht hu hi hsize g off n cap s hroom
    (fun j hj=>by rw [hg.cell,Al (by omega)]; rfl)
    (fun j hj=>hg.free (by omega))
   obtain⟨fz,hg0,hfz⟩:=id hg;obtain⟨cs',c1,c2,c3,c4⟩:=ma g e fz (Lib.strCells s) (off+n) w cs hg0;refine⟨_,_,hr,.inr ⟨g,off,n+s.size,cap,cs',rfl,by rw [bm,hsl]; omega,hb,⟨fz,c1,by rw [c2]; exact hfz⟩,hroom,hc,by rw [c2]; exact hsz,fun j u hu=>?_⟩,vJ w g _ _,.inl rfl⟩;by_cases hj:j<xs.length
   ·rw [pp hj] at hu;rw [c3 _ (by omega)];exact hcs j u hu
   ·rw [sL (by omega)] at hu;have:=c4 (by rw [hsl]; omega) (j-xs.length) u hu;rwa [show off+n+(j-xs.length)=off+j by omega] at this
  ·have hr:=Lib.run_append_grow_string (P:=P) w t u ty e i z ht hu hi hz ⟨g,off,none⟩ n cap xs (by rw [hsize]; omega) (fun j u hu=>by rw [Addr.add_lit,hg.cell]; exact hcs j u hu) s (by omega) (by omega)
    (growslice_fits (by omega) (by rw [hby]; omega))
   exact⟨_,_,hr,grown cap n hn.symm (by omega),⟨rfl,rfl,rfl,by simp,fun k O _=>Below.heap_alloc w.drew _ k O⟩,.inr rfl⟩
end
section
variable {P:Program} {W:World} {M T E:Nat->Prop} {n:Nat} {G G':List (Nat×Value)} {D D':List cZ} {F F':List cD} {a:Act} {w w':World} {K:Act->World->Prop}
theorem BN {t':TypeId} {y:Operand} {k k':IntKind} {p q:Int} (I:St W M T n G D F a w) (hx:ev G x=some (.int k p)) (hy:ev G y=some (.int k' q)) (hq:decide (0<=q)=true):Ye P ⟨d,.binOp .shl t x y t',ty,pos,af,g⟩ a E w (.int k (rI k p q)) :=
 Ye.of fun w=>by
  have h1:=I.ev hx;have h2:=I.ev hy;have h3:¬ q<0:=by have:=of_decide_eq_true hq; omega
  simp [execOp,h1,h2,eqGuard,binOp,Op.shift,h3,rI]
theorem zS {t':TypeId} {y:Operand} {k k':IntKind} {p q:Int} (I:St W M T n G D F a w) (hx:ev G x=some (.int k p)) (hy:ev G y=some (.int k' q)) (hq:decide (0<=q)=true):Ye P ⟨d,.binOp .shr t x y t',ty,pos,af,g⟩ a E w (.int k (ji k p q)) :=
 Ye.of fun w=>by
  have h1:=I.ev hx;have h2:=I.ev hy;have h3:¬ q<0:=by have:=of_decide_eq_true hq; omega
  simp [execOp,h1,h2,eqGuard,binOp,Op.shift,h3,ji]
theorem Qe {s:ByteArray} {d:Nat} {src e:TypeId} (I:St W M T n G D F a w) (hx:ev G x=some (.string s)) (hs:P.underlying src=some .string) (ht:P.underlying t=some (.slice e)) (he:P.underlying e=some (.int .u8)) (hroom:bW s.size=true) (hn:Nat.blt d n=true)
  (k:∀ v cl a w',Kt No w w'->St W M T n ((d,v)::G) (.own v e (aL.int .u8).size cl::D) (ao (aL.int .u8) cl (cr s)::F) a w'->K a w'):ru P ⟨some d,.convert src t x,ty,pos,af,g⟩ a w K:=by
 have h1:s.size<=4294967296:=Fk hroom;have hrun:(execOp a.eval ⟨some d,.convert src t x,ty,pos,af,g⟩).run P w = .ok (.value (.slice (some ⟨w.heap.size,0,none⟩) s.size (grownCap w s.size 0 e))) (Lib.bytesWorld w e s):=by
  have:=Lib.run_convert_string_bytes (P:=P) w src t e s hs ht he;simp [execOp,I.ev hx,this]
 have hge:=grownCap_ge w s.size 0 e;have hcm:grownCap w s.size 0 e<=maxLen:=grownCap_le_maxLen w s.size 0 e (by unfold maxLen; omega);have O:Kt No w (Lib.bytesWorld w e s):=Kt.ofBelow (Go.Joins.below_bytesWorld _ _ _ _ (bZ _));have hsz:(Lib.bytesCells w e s).size=grownCap w s.size 0 e:=by
  unfold Lib.bytesCells;simp only [Array.size_append,Array.size_map,Array.size_replicate];have:s.data.size=s.size:=rfl;omega
 have hown:pi (Lib.bytesWorld w e s) 0 e (aL.int .u8).size (.slice (some ⟨w.heap.size,0,none⟩) s.size (grownCap w s.size 0 e)) (Lib.strCells s):=by
  refine .inr ⟨w.heap.size,0,s.size,_,Lib.bytesCells w e s,rfl,by rw [Lib.strCells_length]; exact (Nat.mul_one _).symm,bT _,⟨_,Lib.bytesWorld_at_new w e s,.inr (bZ _)⟩,hge,hcm,by rw [hsz]; show 0+_*1<=_; omega,fun j u hu=>?_⟩;have hj:=(cm.1 hu).1;rw [Lib.strCells_length] at hj;unfold Lib.bytesCells;rw [n4,MB (by simpa using hj)];unfold Lib.strCells at hu;rw [ro] at hu;simpa using hu
 have h2:=I.fact (ao (aL.int .u8) (Lib.strCells s) (cr s)) (by rw [BD]; exact Bw _ _ _);exact A7 hrun (k _ _ _ _ O ((h2.add O (.own _ e (aL.int .u8).size (Lib.strCells s)) ⟨hown,by decide⟩ (fun j hj=>by simp only [cZ.dom,Value.ownBlock,cp] at hj; omega)).put hn _))
theorem A0:∀ (ns:List Int) (r:ByteArray),ns.foldl (fun r n=>r.push (UInt8.ofNat n.toNat)) r=⟨r.data++(ns.map fun n=>UInt8.ofNat n.toNat).toArray⟩
 | [],r=>by simp
 | n::ns,r=>by
  rw [FH,A0 ns];apply ByteArray.ext;simp [ByteArray.push]
theorem Lm (w:World) (A:Option Addr) (m c:Nat) (xs:List Int) (hm:m=xs.length) (hat:At w A (xs.map (Value.int .u8))):(Conv.bytesToString (.slice A m c)).run P w = .ok (.string (aX xs)) w:=by
 rcases hat with h | ⟨b,off,rfl,h⟩
 ·have:xs=[]:=by simpa using h
  subst this;have hm:m=0:=hm;subst hm;cases A <;> simp [Conv.bytesToString,loadCells,loadCellsFrom,aX,Sem.run_pure] <;> rfl
 ·have hl:=run_loadCells_list (P:=P) w ⟨b,off,none⟩ (xs.map (Value.int .u8)) (fun j u hu=>by rw [Addr.add_lit]; exact h j u hu);rw [pq,<- hm] at hl;rw [run_bytesToString w ⟨b,off,none⟩ m c xs hl,A0];simp [aX]
theorem vR {s e e':TypeId} {v:Value} {cl:bC} {xs:List Int} (I:St W M T n G D F a w) (hx:ev G x=some v) (hs:P.underlying s=some (.slice e)) (he:P.underlying e=some (.int .u8)) (ht:P.underlying t=some .string) (i:Nat) (hi:D[i]? = some (.own v e' (aL.int .u8).size cl)) (j:Nat) (hj:F[j]? = some (ao (aL.int .u8) cl xs)) (hE:∀ k,v.ownBlock=some k->¬ E k):Ye P ⟨d,.convert s t x,ty,pos,af,g⟩ a E w (.string (aX xs)):=fun w' O=>by
 obtain⟨hown,hsz⟩:=I.own _ (aK hi);have hrow:aY (aL.int .u8) (dT T D) w cl xs:=I.get j hj;have hcl:=Cp hrow;have h1:∃ A m c,v = .slice A m c/\m=xs.length/\At w' A (xs.map (Value.int .u8)):=by
  rcases hown with⟨rfl,h0⟩|⟨g,off,m,cap,cs,rfl,a1,hb,hg,hnc,hc,hsz2,hcs⟩
  ·have hz:xs=[]:=by rw [h0] at hcl; simpa using hcl.symm
   exact⟨none,0,0,rfl,by rw [hz]; rfl,.inl (by rw [hz]; rfl)⟩
  ·have hg':=hg.eqb (O.block g hg.lt (hE g rfl));refine⟨_,_,_,rfl,?_,.inr ⟨g,off,rfl,fun j u hu=>?_⟩⟩
   ·have:(aL.int .u8).size=1:=rfl;have:=congrArg List.length hcl;simp at this; simp only [aL.int] at a1; omega
   ·rw [hg'.cell];exact hcs j u (by rw [hcl]; exact hu)
 obtain⟨A,m,c,rfl,hm,hat⟩:=h1;have:=Lm (P:=P) w' A m c xs hm hat;simp [execOp,I.ev hx,convert,run_underlying hs,run_underlying he,run_underlying ht,this]
end
end
section
open Go.Lib
def Dw (c:UInt8):Bool:=decide (48<=c.toNat)&&decide (c.toNat<=57)
def cR:List UInt8->Nat->Int
 | [],n=>n
 | c::r,n=>if Dw c then cR r (10*n+(c.toNat-48)) else -1
def r6 (l:List UInt8):Int:=if l=[]∨9<l.length∨(l.getD 0 0=48/\l≠[48]) then -1 else cR l 0
theorem xd:∀ (l:List UInt8) (n:Nat),cR l n = -1∨(n:Int)<=cR l n
 | [],n=>.inr (by simp [cR])
 | c::r,n=>by
  unfold cR;split
  ·rcases xd r (10*n+(c.toNat-48)) with h | h
   ·exact .inl h
   ·exact .inr (by omega)
  ·exact .inl rfl
theorem AR:∀ (l:List UInt8) (n:Nat),cR l n<(n+1)*10 ^ l.length
 | [],n=>by simp [cR]; omega
 | c::r,n=>by
  unfold cR;split
  ·rename_i h;have hc:c.toNat<=57:=by simp [Dw] at h; omega
   have:=AR r (10*n+(c.toNat-48));have h2:((10*n+(c.toNat-48):Nat):Int)+1<=(n+1)*10:=by omega
   have h3:(((10*n+(c.toNat-48):Nat):Int)+1)*10 ^ r.length<=((n+1)*10)*10 ^ r.length:=Int.mul_le_mul_of_nonneg_right h2 (by exact Int.le_of_lt (Int.pow_pos (by omega)));have h4:(((n:Int)+1)*10)*10 ^ r.length=((n:Int)+1)*10 ^ (c::r).length:=by rw [j8,Int.pow_succ,Int.mul_assoc,Int.mul_comm 10]
   omega
  ·have:(0:Int)<((n:Int)+1)*10 ^ (c::r).length:=Int.mul_pos (by omega) (Int.pow_pos (by omega));omega
theorem rZ:∀ (l:List UInt8) (n m:Nat) (c:UInt8),cR l n=m->cR (l++[c]) n=if Dw c then ((10*m+(c.toNat-48):Nat):Int) else -1
 | [],n,m,c,h=>by
  simp only [cR] at h;have:n=m:=by omega
  subst this;simp [cR]
 | d::r,n,m,c,h=>by
  unfold cR at h;split at h
  ·rename_i hd;show cR (d::(r++[c])) n=_;rw [cR,if_pos hd];exact rZ r _ m c h
  ·omega
theorem yQ {k:Nat} (h:k<10):(UInt8.ofNat (48+k)).toNat=48+k:=by
 have:(UInt8.ofNat (48+k)).toNat=(48+k) % 256:=rfl;omega
theorem Dx {k:Nat} (h:k<10):Dw (UInt8.ofNat (48+k))=true:=by
 unfold Dw; rw [yQ h]; simp; omega
theorem zG (n:Nat):cR (decDigits n) 0=n:=by
 induction n using Nat.strongRecOn with
 | _ n ih =>
  rw [decDigits];split
  ·rename_i h;simp only [cR,Dx h,if_true,yQ h];omega
  ·rename_i h;rw [rZ _ 0 (n / 10) _ (ih (n / 10) (by omega)),Dx (by omega),if_pos rfl,yQ (by omega)];omega
theorem Dv (n:Nat):decDigits n≠[]:=by
 rw [decDigits]; split <;> simp
theorem Jq (n:Nat):(decDigits n).getD 0 0=48->decDigits n=[48]:=by
 induction n using Nat.strongRecOn with
 | _ n ih =>
  rw [decDigits];split
  ·rename_i h;intro h2;simp only [List.getD_cons_zero] at h2;rw [h2]
  ·rename_i h;intro h2;have hne:=Dv (n / 10);have h3:(decDigits (n / 10)).getD 0 0=48:=by
    cases hd:decDigits (n / 10) with
    | nil=>exact absurd hd hne
    | cons a r=>rw [hd] at h2; simpa using h2
   have h4:=ih (n / 10) (by omega) h3;have h5:=zG (n / 10);rw [h4] at h5;have:cR [48] 0=0:=rfl;omega
theorem xQ (n:Nat):∀ k,n<10 ^ (k+1)->(decDigits n).length<=k+1:=by
 induction n using Nat.strongRecOn with
 | _ n ih =>
  intro k O;rw [decDigits];split
  ·simp
  ·rename_i h;cases k with
   | zero=>simp at O; omega
   | succ k =>
    have:=ih (n / 10) (by omega) k (by rw [Nat.div_lt_iff_lt_mul (by omega)]; rwa [zu] at O);simp; omega
theorem AS {n:Nat} (h:n<1000000000):r6 (decDigits n)=n:=by
 unfold r6;rw [if_neg,zG];rintro (h1 | h1 | ⟨h1,h2⟩)
 ·exact Dv n h1
 ·have:=xQ n 8 (by simpa using h); omega
 ·exact h2 (Jq n h1)
theorem Gw {α:Type} (l:List α):l=[]∨∃ r c,l=r++[c]:=by
 rcases List.eq_nil_or_concat l with h | ⟨r,c,h⟩
 ·exact .inl h
 ·exact .inr ⟨r,c,by simpa using h⟩
theorem uT:∀ (l:List UInt8) (n:Nat) (c:UInt8),cR l n = -1->cR (l++[c]) n = -1
 | [],n,c,h=>by simp [cR] at h
 | d::r,n,c,h=>by
  show cR (d::(r++[c])) n=_;unfold cR at h ⊢;split
  ·rename_i hd;rw [if_pos hd] at h;exact uT r _ c h
  ·rfl
theorem EI:∀ (k:Nat) (l:List UInt8) (n:Nat),l.length<=k->l≠[]->(l.getD 0 0=48->l=[48])->cR l 0=n->decDigits n=l:=by
 intro k
 induction k with
 | zero=>intro l n O h1 _ _; exact absurd (BQ (by omega)) h1
 | succ k ih =>
  intro l n O h1 h2 h3;rcases Gw l with rfl | ⟨r,c,rfl⟩
  ·exact absurd rfl h1
  ·cases hr:r with
   | nil =>
    subst hr;simp only [s7,cR] at h3 ⊢;split at h3
    ·rename_i hd;have hc:48<=c.toNat/\c.toNat<=57:=by simpa [Dw] using hd
     have hn:n=c.toNat-48:=by omega
     rw [decDigits,dif_pos (by omega),hn,show 48+(c.toNat-48)=c.toNat by omega,UInt8.ofNat_toNat]
    ·omega
   | cons a r' =>
    rw [<- hr];rcases xd r 0 with h | h
    ·rw [uT r 0 c h] at h3; omega
    ·obtain⟨m,hm⟩:∃ m:Nat,cR r 0=m:=⟨(cR r 0).toNat,by omega⟩;rw [rZ r 0 m c hm] at h3;split at h3
     ·rename_i hd;have hc:48<=c.toNat/\c.toNat<=57:=by simpa [Dw] using hd
      have ha:r.getD 0 0≠48:=by
       intro e;have:=h2 (by rw [hr] at e ⊢; simpa using e);rw [hr] at this; simp at this
      have hrec:=ih r m (by simp at O; omega) (by rw [hr]; simp) (fun e=>absurd e ha) hm;have hm0:1<=m:=by
       rcases xB m with e | e
       ·subst e;rw [decDigits,dif_pos (by omega)] at hrec;rw [<- hrec] at ha;exact absurd rfl ha
       ·exact e
      rw [decDigits,dif_neg (by omega),show n / 10=m by omega,hrec,show n % 10=c.toNat-48 by omega,show 48+(c.toNat-48)=c.toNat by omega,UInt8.ofNat_toNat]
     ·omega
theorem N0 {l:List UInt8} {n:Nat} (h:r6 l=n):decDigits n=l/\n<1000000000:=by
 unfold r6 at h;split at h
 ·omega
 ·rename_i hc;have h1:l≠[]:=fun e=>hc (.inl e);have h2:l.length<=9:=by
   rcases iz 9 l.length with e | e
   ·exact absurd (.inr (.inl e)) hc
   ·exact e
  have h3:l.getD 0 0=48->l=[48]:=fun e=>HM fun e2=>hc (.inr (.inr ⟨e,e2⟩));refine⟨EI 9 l n h2 h1 h3 h,?_⟩;have:=AR l 0;have hp:(10:Nat) ^ l.length<=10 ^ 9:=uQ (by omega) h2;have hq:((10:Int) ^ l.length)=((10 ^ l.length:Nat):Int):=by simp
  rw [h,hq] at this;simp only [Int.natCast_zero,Int.zero_add,Int.one_mul] at this;have:(10:Nat) ^ 9=1000000000:=rfl;omega
theorem G3 (l:List UInt8) : -1<=r6 l:=by
 unfold r6;split
 ·omega
 ·rcases xd l 0 with h | h <;> omega
theorem CS:∀ (l:List UInt8) (a m:Nat) (c:UInt8),parseUint10 a l = .ok m->m<1000000000000->Dw c=true->parseUint10 a (l++[c]) = .ok (10*m+(c.toNat-48))
 | [],a,m,c,h,hm,hc=>by
  simp only [parseUint10] at h;injection h with h;subst h;have hc':48<=c.toNat/\c.toNat<=57:=by simpa [Dw] using hc
  simp only [s7,parseUint10];rw [if_pos hc',if_neg (by omega),if_neg (by omega)];congr 1; omega
 | d::r,a,m,c,h,hm,hc=>by
  show parseUint10 a (d::(r++[c]))=_;unfold parseUint10 at h ⊢;split at h
  ·rename_i hd;rw [if_pos hd];split at h
   ·cases h
   ·rename_i h2;rw [if_neg h2];split at h
    ·cases h
    ·rename_i h3;rw [if_neg h3];exact CS r _ m c h hm hc
  ·cases h
theorem Iw (n:Nat) (h:n<1000000000000):parseUint10 0 (decDigits n) = .ok n:=by
 induction n using Nat.strongRecOn with
 | _ n ih =>
  rw [decDigits];split
  ·rename_i h;simp only [parseUint10,yQ h];rw [if_pos (by omega),if_neg (by omega),if_neg (by omega)];congr 1; omega
  ·rename_i h;rw [CS _ 0 (n / 10) _ (ih (n / 10) (by omega) (by omega)) (by omega) (Dx (by omega)),yQ (by omega)];congr 1; omega
theorem LJ (n:Nat):48<=((decDigits n).getD 0 0).toNat:=by
 induction n using Nat.strongRecOn with
 | _ n ih =>
  rw [decDigits];split
  ·rename_i h;simp only [List.getD_cons_zero];rw [yQ h]; omega
  ·rename_i h;have hne:=Dv (n / 10);have:=ih (n / 10) (by omega);cases hd:decDigits (n / 10) with
   | nil=>exact absurd hd hne
   | cons a r=>rw [hd] at this; simpa using this
theorem AF {n:Nat} (h:n<1000000000):atoiAll (decDigits n) = .ok (n:Int):=by
 have h1:=Iw n (by omega);have h2:=LJ n;have h3:=Dv n;cases hd:decDigits n with
 | nil=>exact absurd hd h3
 | cons c r =>
  rw [hd] at h1 h2;simp only [List.getD_cons_zero] at h2;have h45:¬ (c.toNat=43∨c.toNat=45):=by omega
  have h46:¬ c.toNat=45:=by omega
  simp only [atoiAll,if_neg h45,parseMag,if_neg (List.cons_ne_nil c r),h1];rw [if_neg (by omega),if_neg (by omega),if_neg h46]
def Bd (M:Nat) (l:List UInt8):Int:=if r6 l<=M then r6 l else -1
theorem Is (M:Nat) (B:M<1000000000) (l:List UInt8):Bd M l=match atoiAll l with
  | .ok v=>if v<0∨(M:Int)<v then -1 else if itoa v=l then v else -1
  | _=>-1:=by
 have key:∀ n:Nat,r6 l=n->n<=M->Bd M l=n/\atoiAll l = .ok (n:Int)/\itoa (n:Int)=l:=fun n h1 h2=>by
  obtain⟨h3,h4⟩:=N0 h1;refine⟨by unfold Bd; rw [h1,if_pos (by omega)],by rw [<- h3]; exact AF h4,by unfold itoa; rw [if_neg (by omega)]; simpa using h3⟩
 have hge:=G3 l;by_cases hc:0<=r6 l/\r6 l<=M
 ·obtain⟨n,hn⟩:∃ n:Nat,r6 l=n:=⟨(r6 l).toNat,by omega⟩;obtain⟨k1,k2,k3⟩:=key n hn (by omega);rw [k1,k2];simp only;rw [if_neg (by omega),if_pos k3]
 ·have hl:Bd M l = -1:=by
   unfold Bd;split
   ·omega
   ·rfl
  rw [hl];cases ha:atoiAll l
  ·rename_i v;simp only;split
   ·rfl
   ·rename_i hv;split
    ·rename_i hi;exfalso;have hv0:0<=v/\v<=M:=by omega
     obtain⟨n,rfl⟩:∃ n:Nat,v=n:=⟨v.toNat,by omega⟩;unfold itoa at hi;rw [if_neg (by omega)] at hi;simp only [s3] at hi;have:=AS (n:=n) (by omega);rw [hi] at this;omega
    ·rfl
  ·rfl
  ·rfl
end
end Go.Proofs.YtcpplgcgcbihoaaGreatDoor
section
namespace Go.Proofs
open Go.Shelf
def Tryz.lays106_ren:Go.Shelf.Ren:=⟨fun | 106=>152 | 213=>193 | 265=>227 | n=>n,fun | 9=>9 | 3=>3 | n=>n,fun | n=>n⟩
theorem Tryz.lays106:Go.Proofs.Lays.n106 Tryz.prog Tryz.lays106_ren:={
 mixed:=by kernel_rfl
 f106:=Tryz.func152.trans (congrArg some (by kernel_rfl))
 f213:=Tryz.func193.trans (congrArg some (by kernel_rfl))
 f265:=Tryz.func227.trans (congrArg some (by kernel_rfl))
 t3:=Tryz.underlying3
 a3:=Tryz.isAgg3
 z3:=Tryz.sizeOf3
 v3:=Tryz.zeroValue3
 t9:=Tryz.underlying9
 a9:=Tryz.isAgg9
 z9:=Tryz.sizeOf9
 v9:=Tryz.zeroValue9 }
open Go.RowKit in
theorem Tryz.strings_Compare (a b:ByteArray) (w:World) :
  Calls Tryz.prog 152 #[.string a,.string b] w fun e w'=>e = .returned (.int .i64 (Lib.compareBytes a.data.toList b.data.toList))/\w'=w:=Any.strings_Compare Tryz.lays106 a b w
def Tryz.laysM171_ren:Go.Shelf.Ren:=⟨fun | 171=>147 | 243=>190 | 246=>225 | 283=>251 | 284=>252 | 285=>253 | 286=>254 | 129=>240 | 317=>297 | 318=>298 | 319=>299 | 320=>300 | 337=>377 | 338=>378 | n=>n,fun | 3=>3 | 9=>9 | 2=>2 | 4=>4 | 171=>286 | 0=>0 | 53=>103 | 37=>61 | 5=>5 | 173=>288 | 212=>343 | 51=>276 | 20=>20 | 213=>344 | 46=>187 | 232=>578 | 233=>579 | n=>n,fun | 17=>1 | 18=>4 | 19=>5 | n=>n⟩
theorem Tryz.laysM171:Go.Proofs.LaysM.n171 Tryz.prog Tryz.laysM171_ren:={
 mixed:=by kernel_rfl
 f129:=Tryz.func240.trans (congrArg some (by kernel_rfl))
 f171:=Tryz.func147.trans (congrArg some (by kernel_rfl))
 f243:=Tryz.func190.trans (congrArg some (by kernel_rfl))
 f246:=Tryz.func225.trans (congrArg some (by kernel_rfl))
 f283:=Tryz.func251.trans (congrArg some (by kernel_rfl))
 f284:=Tryz.func252.trans (congrArg some (by kernel_rfl))
 f285:=Tryz.func253.trans (congrArg some (by kernel_rfl))
 f286:=Tryz.func254.trans (congrArg some (by kernel_rfl))
 f317:=Tryz.func297.trans (congrArg some (by kernel_rfl))
 f318:=Tryz.func298.trans (congrArg some (by kernel_rfl))
 f319:=Tryz.func299.trans (congrArg some (by kernel_rfl))
 f320:=Tryz.func300.trans (congrArg some (by kernel_rfl))
 f337:=Tryz.func377.trans (congrArg some (by kernel_rfl))
 f338:=Tryz.func378.trans (congrArg some (by kernel_rfl))
 t0:=Tryz.underlying0
 a0:=Tryz.isAgg0
 z0:=Tryz.sizeOf0
 v0:=Tryz.zeroValue0
 t2:=Tryz.underlying2
 a2:=Tryz.isAgg2
 z2:=Tryz.sizeOf2
 v2:=Tryz.zeroValue2
 t3:=Tryz.underlying3
 a3:=Tryz.isAgg3
 z3:=Tryz.sizeOf3
 v3:=Tryz.zeroValue3
 t4:=Tryz.underlying4
 a4:=Tryz.isAgg4
 z4:=Tryz.sizeOf4
 v4:=Tryz.zeroValue4
 t5:=Tryz.underlying5
 a5:=Tryz.isAgg5
 z5:=Tryz.sizeOf5
 v5:=Tryz.zeroValue5
 t9:=Tryz.underlying9
 a9:=Tryz.isAgg9
 z9:=Tryz.sizeOf9
 v9:=Tryz.zeroValue9
 t20:=Tryz.underlying20
 a20:=Tryz.isAgg20
 z20:=Tryz.sizeOf20
 v20:=Tryz.zeroValue20
 t37:=Tryz.underlying61
 a37:=Tryz.isAgg61
 z37:=Tryz.sizeOf61
 v37:=Tryz.zeroValue61
 t46:=Tryz.underlying187
 a46:=Tryz.isAgg187
 z46:=Tryz.sizeOf187
 v46:=Tryz.zeroValue187
 t51:=Tryz.underlying276
 a51:=Tryz.isAgg276
 z51:=Tryz.sizeOf276
 v51:=Tryz.zeroValue276
 t53:=Tryz.underlying103
 a53:=Tryz.isAgg103
 z53:=Tryz.sizeOf103
 v53:=Tryz.zeroValue103
 t171:=Tryz.underlying286
 a171:=Tryz.isAgg286
 z171:=Tryz.sizeOf286
 v171:=Tryz.zeroValue286
 t173:=Tryz.underlying288
 a173:=Tryz.isAgg288
 z173:=Tryz.sizeOf288
 v173:=Tryz.zeroValue288
 t212:=Tryz.underlying343
 a212:=Tryz.isAgg343
 z212:=Tryz.sizeOf343
 v212:=Tryz.zeroValue343
 t213:=Tryz.underlying344
 a213:=Tryz.isAgg344
 z213:=Tryz.sizeOf344
 t232:=Tryz.underlying578
 a232:=Tryz.isAgg578
 z232:=Tryz.sizeOf578
 v232:=Tryz.zeroValue578
 t233:=Tryz.underlying579
 a233:=Tryz.isAgg579
 z233:=Tryz.sizeOf579
 v233:=Tryz.zeroValue579
 g17:=by kernel_rfl
 g18:=by kernel_rfl
 g19:=by kernel_rfl
 i0:=by kernel_rfl
 i2:=by kernel_rfl
 i3:=by kernel_rfl
 i4:=by kernel_rfl
 i5:=by kernel_rfl
 i9:=by kernel_rfl
 i20:=by kernel_rfl
 i37:=by kernel_rfl
 i46:=by kernel_rfl
 i51:=by kernel_rfl
 i53:=by kernel_rfl
 i171:=by kernel_rfl
 i173:=by kernel_rfl
 i212:=by kernel_rfl
 i232:=by kernel_rfl
 i233:=by kernel_rfl
 m17:=by kernel_rfl
 m18:=by kernel_rfl
 m19:=by kernel_rfl }
open Go.RowKit Go.Sort Go.Lib in
theorem Tryz.strconv_Itoa (n : Int) (h0 : -9223372036854775808 <= n) (h1 : n <= 9223372036854775807) (w : World) (htab : Lib.TabIs Tryz.prog w "internal/strconv.uint64pow10" .u64 Lib.pow10Tab) :
  Calls Tryz.prog 147 #[.int .i64 n] w fun e w'=>e = .returned (.string ⟨(Lib.itoa n).toArray⟩)/\∃ k os,w'=grow (w.drewN k) os:=Any.strconv_Itoa Tryz.laysM171 n h0 h1 w htab
def Tryz.laysC172_ren:Go.Shelf.Ren:=⟨fun | 172=>198 | 244=>229 | 245=>230 | 247=>257 | 279=>258 | 280=>259 | 281=>260 | 282=>261 | 287=>301 | 316=>302 | 171=>147 | 205=>303 | 321=>379 | 322=>380 | 243=>190 | 246=>225 | 283=>251 | 284=>252 | 285=>253 | 286=>254 | 129=>240 | 317=>297 | 318=>298 | 319=>299 | 320=>300 | 337=>377 | 338=>378 | n=>n,fun | 9=>9 | 3=>3 | 75=>241 | 76=>242 | 4=>4 | 5=>5 | 167=>292 | 37=>61 | 0=>0 | 85=>293 | 2=>2 | 168=>295 | 53=>103 | 175=>345 | 46=>187 | 210=>348 | 127=>478 | 145=>481 | 143=>479 | 21=>21 | 171=>286 | 173=>288 | 212=>343 | 51=>276 | 20=>20 | 213=>344 | 232=>578 | 233=>579 | 80=>99 | n=>n,fun | 15=>2 | 16=>3 | 17=>1 | 18=>4 | 19=>5 | n=>n⟩
theorem Tryz.laysC172:Go.Proofs.LaysC.n172 Tryz.prog Tryz.laysC172_ren:={
 mixed:=by kernel_rfl
 f129:=Tryz.func240.trans (congrArg some (by kernel_rfl))
 f171:=Tryz.func147.trans (congrArg some (by kernel_rfl))
 f172:=Tryz.func198.trans (congrArg some (by kernel_rfl))
 f205:=Tryz.func303.trans (congrArg some (by kernel_rfl))
 f243:=Tryz.func190.trans (congrArg some (by kernel_rfl))
 f244:=Tryz.func229.trans (congrArg some (by kernel_rfl))
 f245:=Tryz.func230.trans (congrArg some (by kernel_rfl))
 f246:=Tryz.func225.trans (congrArg some (by kernel_rfl))
 f247:=Tryz.func257.trans (congrArg some (by kernel_rfl))
 f279:=Tryz.func258.trans (congrArg some (by kernel_rfl))
 f280:=Tryz.func259.trans (congrArg some (by kernel_rfl))
 f281:=Tryz.func260.trans (congrArg some (by kernel_rfl))
 f282:=Tryz.func261.trans (congrArg some (by kernel_rfl))
 f283:=Tryz.func251.trans (congrArg some (by kernel_rfl))
 f284:=Tryz.func252.trans (congrArg some (by kernel_rfl))
 f285:=Tryz.func253.trans (congrArg some (by kernel_rfl))
 f286:=Tryz.func254.trans (congrArg some (by kernel_rfl))
 f287:=Tryz.func301.trans (congrArg some (by kernel_rfl))
 f316:=Tryz.func302.trans (congrArg some (by kernel_rfl))
 f317:=Tryz.func297.trans (congrArg some (by kernel_rfl))
 f318:=Tryz.func298.trans (congrArg some (by kernel_rfl))
 f319:=Tryz.func299.trans (congrArg some (by kernel_rfl))
 f320:=Tryz.func300.trans (congrArg some (by kernel_rfl))
 f321:=Tryz.func379.trans (congrArg some (by kernel_rfl))
 f322:=Tryz.func380.trans (congrArg some (by kernel_rfl))
 f337:=Tryz.func377.trans (congrArg some (by kernel_rfl))
 f338:=Tryz.func378.trans (congrArg some (by kernel_rfl))
 t0:=Tryz.underlying0
 a0:=Tryz.isAgg0
 z0:=Tryz.sizeOf0
 v0:=Tryz.zeroValue0
 t2:=Tryz.underlying2
 a2:=Tryz.isAgg2
 z2:=Tryz.sizeOf2
 v2:=Tryz.zeroValue2
 t3:=Tryz.underlying3
 a3:=Tryz.isAgg3
 z3:=Tryz.sizeOf3
 v3:=Tryz.zeroValue3
 t4:=Tryz.underlying4
 a4:=Tryz.isAgg4
 z4:=Tryz.sizeOf4
 v4:=Tryz.zeroValue4
 t5:=Tryz.underlying5
 a5:=Tryz.isAgg5
 z5:=Tryz.sizeOf5
 v5:=Tryz.zeroValue5
 t9:=Tryz.underlying9
 a9:=Tryz.isAgg9
 z9:=Tryz.sizeOf9
 v9:=Tryz.zeroValue9
 t20:=Tryz.underlying20
 a20:=Tryz.isAgg20
 z20:=Tryz.sizeOf20
 v20:=Tryz.zeroValue20
 t21:=Tryz.underlying21
 a21:=Tryz.isAgg21
 z21:=Tryz.sizeOf21
 v21:=Tryz.zeroValue21
 t37:=Tryz.underlying61
 a37:=Tryz.isAgg61
 z37:=Tryz.sizeOf61
 v37:=Tryz.zeroValue61
 t46:=Tryz.underlying187
 a46:=Tryz.isAgg187
 z46:=Tryz.sizeOf187
 v46:=Tryz.zeroValue187
 t51:=Tryz.underlying276
 a51:=Tryz.isAgg276
 z51:=Tryz.sizeOf276
 v51:=Tryz.zeroValue276
 t53:=Tryz.underlying103
 a53:=Tryz.isAgg103
 z53:=Tryz.sizeOf103
 v53:=Tryz.zeroValue103
 t75:=Tryz.underlying241
 a75:=Tryz.isAgg241
 z75:=Tryz.sizeOf241
 v75:=Tryz.zeroValue241
 t76:=Tryz.underlying242
 a76:=Tryz.isAgg242
 z76:=Tryz.sizeOf242
 v76:=Tryz.zeroValue242
 t85:=Tryz.underlying293
 a85:=Tryz.isAgg293
 z85:=Tryz.sizeOf293
 v85:=Tryz.zeroValue293
 t127:=Tryz.underlying478
 a127:=Tryz.isAgg478
 z127:=Tryz.sizeOf478
 v127:=Tryz.zeroValue478
 t143:=Tryz.underlying479
 a143:=Tryz.isAgg479
 z143:=Tryz.sizeOf479
 v143:=Tryz.zeroValue479
 t145:=Tryz.underlying481
 a145:=Tryz.isAgg481
 z145:=Tryz.sizeOf481
 v145:=Tryz.zeroValue481
 t167:=Tryz.underlying292
 a167:=Tryz.isAgg292
 z167:=Tryz.sizeOf292
 v167:=Tryz.zeroValue292
 t168:=Tryz.underlying295
 a168:=Tryz.isAgg295
 z168:=Tryz.sizeOf295
 v168:=Tryz.zeroValue295
 t171:=Tryz.underlying286
 a171:=Tryz.isAgg286
 z171:=Tryz.sizeOf286
 v171:=Tryz.zeroValue286
 t173:=Tryz.underlying288
 a173:=Tryz.isAgg288
 z173:=Tryz.sizeOf288
 v173:=Tryz.zeroValue288
 t175:=Tryz.underlying345
 a175:=Tryz.isAgg345
 z175:=Tryz.sizeOf345
 v175:=Tryz.zeroValue345
 t210:=Tryz.underlying348
 a210:=Tryz.isAgg348
 z210:=Tryz.sizeOf348
 v210:=Tryz.zeroValue348
 t212:=Tryz.underlying343
 a212:=Tryz.isAgg343
 z212:=Tryz.sizeOf343
 v212:=Tryz.zeroValue343
 t213:=Tryz.underlying344
 a213:=Tryz.isAgg344
 z213:=Tryz.sizeOf344
 t232:=Tryz.underlying578
 a232:=Tryz.isAgg578
 z232:=Tryz.sizeOf578
 v232:=Tryz.zeroValue578
 t233:=Tryz.underlying579
 a233:=Tryz.isAgg579
 z233:=Tryz.sizeOf579
 v233:=Tryz.zeroValue579
 g15:=by kernel_rfl
 g16:=by kernel_rfl
 g17:=by kernel_rfl
 g18:=by kernel_rfl
 g19:=by kernel_rfl
 t80:=Tryz.underlying99
 a80:=Tryz.isAgg99
 z80:=Tryz.sizeOf99
 v80:=Tryz.zeroValue99
 i0:=by kernel_rfl
 i2:=by kernel_rfl
 i3:=by kernel_rfl
 i4:=by kernel_rfl
 i5:=by kernel_rfl
 i9:=by kernel_rfl
 i20:=by kernel_rfl
 i21:=by kernel_rfl
 i37:=by kernel_rfl
 i46:=by kernel_rfl
 i51:=by kernel_rfl
 i53:=by kernel_rfl
 i75:=by kernel_rfl
 i76:=by kernel_rfl
 i80:=by kernel_rfl
 i85:=by kernel_rfl
 i127:=by kernel_rfl
 i143:=by kernel_rfl
 i145:=by kernel_rfl
 i167:=by kernel_rfl
 i168:=by kernel_rfl
 i171:=by kernel_rfl
 i173:=by kernel_rfl
 i175:=by kernel_rfl
 i210:=by kernel_rfl
 i212:=by kernel_rfl
 i232:=by kernel_rfl
 i233:=by kernel_rfl
 m15:=by kernel_rfl
 m16:=by kernel_rfl
 m17:=by kernel_rfl
 m18:=by kernel_rfl
 m19:=by kernel_rfl
 c0:=by kernel_rfl
 c2:=by kernel_rfl
 c3:=by kernel_rfl
 c4:=by kernel_rfl
 c5:=by kernel_rfl
 c9:=by kernel_rfl
 c20:=by kernel_rfl
 c21:=by kernel_rfl
 c37:=by kernel_rfl
 c46:=by kernel_rfl
 c51:=by kernel_rfl
 c53:=by kernel_rfl
 c75:=by kernel_rfl
 c76:=by kernel_rfl
 c80:=by kernel_rfl
 c85:=by kernel_rfl
 c127:=by kernel_rfl
 c143:=by kernel_rfl
 c145:=by kernel_rfl
 c167:=by kernel_rfl
 c168:=by kernel_rfl
 c171:=by kernel_rfl
 c173:=by kernel_rfl
 c175:=by kernel_rfl
 c210:=by kernel_rfl
 c212:=by kernel_rfl
 c213:=by kernel_rfl
 c232:=by kernel_rfl
 c233:=by kernel_rfl }
open Go.RowKit in
theorem Tryz.strconv_Atoi_ok (s:ByteArray) (hmax:s.size<=9223372036854775806) (v:Int) (h:Lib.atoiAll s.data.toList = .ok v) (w:World) :
  Calls Tryz.prog 198 #[.string s] w fun e w'=>e = .returned (.tuple #[.int .i64 v,.nilIface])/\(w'=w∨∃ t,w'=Lib.bytesWorld w 5 t):=Any.strconv_Atoi_ok Tryz.laysC172 s hmax v h w
open Go.RowKit in
theorem Tryz.strconv_Atoi_syntax (s:ByteArray) (hlim:s.size<=281474976710656) (h:(∀ z,Lib.atoiAll s.data.toList ≠ .ok z)/\Lib.atoiAll s.data.toList ≠ .range) (ev:Value) (w:World) (hv:w.cell? ⟨2,0,none⟩=some ev) (hev:ev = .nilIface∨∃ te pe,ev = .iface te pe) :
  Calls Tryz.prog 198 #[.string s] w fun e w'=>∃ N,e = .returned (.tuple #[.int .i64 (0),.iface 295 (.pointer (some ⟨N,0,none⟩))])/\w.heap.size<=N/\w'.heap[N]? = some (.cells #[.string ⟨#[65,116,111,105]⟩,.string s,ev] 348 (0,0))/\Below w.heap.size w w':=Any.strconv_Atoi_syntax Tryz.laysC172 s hlim (by cases hx:Lib.atoiAll s.data.toList <;> first | rfl | exact absurd hx (h.1 _) | exact absurd hx h.2) ev w hv hev
open Go.RowKit in
theorem Tryz.strconv_Atoi_range (s:ByteArray) (hlim:s.size<=281474976710656) (h:Lib.atoiAll s.data.toList = .range) (ev:Value) (w:World) (hv:w.cell? ⟨3,0,none⟩=some ev) (hev:ev = .nilIface∨∃ te pe,ev = .iface te pe) :
  Calls Tryz.prog 198 #[.string s] w fun e w'=>∃ N,e = .returned (.tuple #[.int .i64 (Lib.atoiSat s.data.toList),.iface 295 (.pointer (some ⟨N,0,none⟩))])/\w.heap.size<=N/\w'.heap[N]? = some (.cells #[.string ⟨#[65,116,111,105]⟩,.string s,ev] 348 (0,0))/\Below w.heap.size w w':=Any.strconv_Atoi_range Tryz.laysC172 s hlim h ev w hv hev
end Go.Proofs
end
namespace Go.Proofs.YtcpplgcgcbihoaaGreatDoor
section
open Go.RowKit
open Go.Lib hiding intOf
structure Lv (w:World):Prop where
 sy:∃ ev,w.cell? ⟨2,0,none⟩=some ev/\(ev = .nilIface∨∃ te pe,ev = .iface te pe)
 ra:∃ ev,w.cell? ⟨3,0,none⟩=some ev/\(ev = .nilIface∨∃ te pe,ev = .iface te pe)
 tab : TabIs aO w "internal/strconv.uint64pow10" .u64 pow10Tab
def Sh (k:Nat):Prop:=k=2∨k=3∨k=1
def fi (T:Nat->Prop) (w:World):Prop:=Lv w/\∀ k,Sh k->¬ T k/\k<w.heap.size
theorem Lv.keep {w w':World} (h:Lv w) (O:∀ k,Sh k->w'.heap[k]? = w.heap[k]?):Lv w':=by
 obtain⟨⟨e1, h1, h2⟩, ⟨e3, h3, h4⟩, h5⟩ := h;refine⟨⟨e1, (World.cell?_of_block (w := w) (O _ (.inl rfl))).trans h1, h2⟩, ⟨e3, (World.cell?_of_block (w := w) (O _ (.inr (.inl rfl)))).trans h3, h4⟩, ?_⟩;have hg : Tryz.prog.globalNamed "internal/strconv.uint64pow10" = some 1 := by kernel_rfl
 unfold TabIs World.var? at *;simp only [hg,ad] at h5 ⊢;rw [O _ (.inr (.inr rfl))]; exact h5
def cc:cD:=⟨fi,fun {T T' w w'} h k n=>⟨h.1.keep fun j hj=>k.block j (h.2 j hj).2 (h.2 j hj).1,fun j hj=>⟨fun ht=>by
 rcases n j ht with h1 | h1
 ·exact (h.2 j hj).1 h1
 ·have:=(h.2 j hj).2; omega,xC (h.2 j hj).2 k.size⟩⟩⟩
theorem fi.dn {T:Nat->Prop} {w:World} (h:fi T w):fi (dT T []) w:=cc.keep h (aj _ _) (SI w)
theorem Lv.here {w:World} (h:Lv w):fi No w:=by
 refine⟨h,fun k O=>⟨fun h=>h,?_⟩⟩;obtain⟨⟨e1,h1,h2⟩,⟨e3,h3,h4⟩,h5⟩:=h;rcases O with rfl | rfl | rfl
 ·exact World.block_lt_of_cell? _ _ h1
 ·exact World.block_lt_of_cell? _ _ h3
 ·have hg : Tryz.prog.globalNamed "internal/strconv.uint64pow10" = some 1 := by kernel_rfl
  unfold TabIs World.var? at h5;simp only [hg,ad] at h5;rcases iz 1 w.heap.size with h | h
  ·exact h
  ·rw [MC h] at h5; cases h5
def N2 (n:Int):Bool:=decide (-9223372036854775808<=n)&&decide (n<=9223372036854775807)
def db (n:Int):ByteArray:=⟨(itoa n).toArray⟩
theorem sc (n:Int):(db n).toList=itoa n:=by rw [db,ByteArray.toList_eq]
def xW (n:Int):Option ByteArray:=gd (N2 n) (some (db n))
theorem LZ (w:World) (k:Nat) (os:Array Obj):Kt No w (Go.Sort.grow (w.drewN k) os) :=
 ⟨rfl,rfl,rfl,by show w.heap.size<=(w.heap++os).size; simp,fun j hj _=>by show (w.heap++os)[j]? = _; rw [MB hj]⟩
theorem An (T:Nat->Prop) (L:World) (hT:∀ k,T k->k<L.heap.size) (hLv:fi T L) (n:Int) (y:ByteArray) (B:xW n=some y):bc aO No 147 [.int .i64 n] L fun v w'=>v = .string y:=by
 unfold xW at B;obtain⟨h1,h2⟩:=aU B;injection h2 with h2;subst h2;unfold N2 at h1;simp only [ri,decide_eq_true_eq] at h1;refine Calls.mono (Tryz.strconv_Itoa n h1.1 h1.2 L hLv.1.tab) ?_;rintro e w' ⟨rfl,k,os,rfl⟩;exact⟨_,rfl,LZ _ _ _,rfl⟩
def xL (s:ByteArray):Option (Int×Bool):=gd (Nat.ble s.size 140737488355328) (some (match atoiAll s.toList with
 | .ok v=>(v,false)
 | .range=>(atoiSat s.toList,true)
 | _=>(0,true)))
theorem Ll (T:Nat->Prop) (L:World) (hT:∀ k,T k->k<L.heap.size) (hLv:fi T L) (s:ByteArray) (y:Int×Bool) (B:xL s=some y):bc aO No 198 [.string s] L fun v w'=>∃ er,v = .tuple #[.int .i64 y.1,er]/\MF er y.2:=by
 unfold xL at B;obtain⟨h1,h2⟩:=aU B;have hs:=du h1;injection h2 with h2;subst h2;have hl:s.data.toList=s.toList:=(ByteArray.toList_eq s).symm;cases h:atoiAll s.toList
 ·rename_i v;refine Calls.mono (Tryz.strconv_Atoi_ok s (by omega) v (by rw [hl]; exact h) L) ?_;rintro e w' ⟨rfl,hw⟩;refine⟨_,rfl,?_,.nilIface,rfl,.inl ⟨rfl,rfl⟩⟩;rcases hw with rfl | ⟨t,rfl⟩
  ·exact aj _ _
  ·exact Kt.ofBelow (Go.Joins.below_bytesWorld _ _ _ _ (bZ _))
 ·obtain⟨ev,h1,h2⟩:=hLv.1.sy;refine Calls.mono (Tryz.strconv_Atoi_syntax s (by omega) (by rw [hl,h]; exact⟨(fun _ h=>nomatch h),(fun h=>nomatch h)⟩) ev L h1 h2) ?_;rintro e w' ⟨N,rfl,_,_,hb⟩;exact⟨_,rfl,Kt.ofBelow hb,_,rfl,.inr ⟨rfl,_,_,rfl⟩⟩
 ·obtain⟨ev,h1,h2⟩:=hLv.1.ra;refine Calls.mono (Tryz.strconv_Atoi_range s (by omega) (by rw [hl]; exact h) ev L h1 h2) ?_;rintro e w' ⟨N,rfl,_,_,hb⟩;rw [hl];exact⟨_,rfl,Kt.ofBelow hb,_,rfl,.inr ⟨rfl,_,_,rfl⟩⟩
end
section
open Go.RowKit
variable {σ ρ:Type} {B:σ->Option (Fl σ ρ)}
theorem rO (I:Nat->σ->Prop) (post:ρ->Prop) (N:Nat)
  (hs:∀ k s,k<N->I k s->(∃ s',B s=some (.go s')/\I (k+1) s')∨∃ r,B s=some (.out r)/\post r) (he:∀ s,I N s->∃ r,B s=some (.out r)/\post r) {s:σ} (h0:I 0 s):∃ r,loop B s=some r/\post r:=by
 have key:∀ (m k:Nat) (s:σ),k+m=N->I k s->∃ r,loop B s=some r/\post r:=by
  intro m
  induction m with
  | zero =>
   intro k s O hI;obtain rfl:k=N:=by omega
   obtain⟨r,h1,h2⟩:=he s hI;exact⟨r,oF h1,h2⟩
  | succ m ih =>
   intro k s O hI;rcases hs k s (by omega) hI with⟨s',h1,h2⟩|⟨r,h1,h2⟩
   ·obtain⟨r,h3,h4⟩:=ih (k+1) s' (by omega) h2;exact⟨r,(x6 h1).trans h3,h4⟩
   ·exact⟨r,oF h1,h2⟩
 exact key N 0 s (by omega) h0
theorem Aq (I:Nat->σ->Prop) (y:ρ) (N:Nat)
  (hs:∀ k s,k<N->I k s->(∃ s',B s=some (.go s')/\I (k+1) s')∨B s=some (.out y)) (he:∀ s,I N s->B s=some (.out y)) {s:σ} (h0:I 0 s):loop B s=some y:=by
 obtain⟨r,h1,rfl⟩:=rO I (fun r=>r=y) N (fun k s O hI=>(hs k s O hI).imp id fun h=>⟨y,h,rfl⟩) (fun s hI=>⟨y,he s hI,rfl⟩) h0;exact h1
theorem lx {z:Int} (h1 : -9223372036854775808<=z) (h2:z<=9223372036854775807):IntKind.i64.wrap z=z:=by rw [IntKind.wrap_i64]; omega
theorem bE {α:Type} {xs:List α} {k:Nat} (h:k<xs.length):bG xs (k:Int)=some xs[k]:=by
 unfold bG;simp [h]
theorem Hv {α:Type} {xs:List α} {l h:Nat} (h1:l<=h) (h2:h<=xs.length):tY xs (l:Int) (h:Int)=some ((xs.take h).drop l):=by
 unfold tY;rw [if_pos ⟨by omega,by omega,by omega⟩];simp
theorem dJ {n:Nat} (h:n<=4294967296):bW n=true:=tw h
def Ok {α:Type} (m:Option α) (P:α->Prop):Prop:=∃ y,m=some y/\P y
section
variable {α β:Type} {m:Option α} {P Q:α->Prop} {R:β->Prop} {f:α->Option β} {b:Bool} {x y:Option α}
theorem ah {v:α} (h:P v):Ok (some v) P:=⟨v,rfl,h⟩
theorem au (h:Ok m Q) (k:∀ v,Q v->Ok (f v) R):Ok (m.bind f) R:=by
 obtain⟨v,rfl,hv⟩:=h;exact k v hv
theorem aI {v:α} (h:m=some v) (k:Ok (f v) R):Ok (m.bind f) R:=by rw [h]; exact k
theorem ax (ht:b=true->Ok x P) (hf:b=false->Ok y P):Ok (cond b x y) P:=by
 cases b
 ·exact hf rfl
 ·exact ht rfl
theorem bO (hb:b=true) (h:Ok x P):Ok (gd b x) P:=by subst hb; exact h
theorem Ok.mono (h:Ok m Q) (k:∀ v,Q v->P v):Ok m P:=by obtain⟨v,e,hv⟩:=h; exact⟨v,e,k v hv⟩
theorem xJ {xs:List α} {i:Int} (h0:0<=i) (h1:i<xs.length) (k:∀ v,xs[i.toNat]? = some v->v∈xs->Ok (f v) R):Ok ((bG xs i).bind f) R:=by
 have O:i.toNat<xs.length:=by omega
 have e:bG xs i=some xs[i.toNat]:=by
  have:=bE O;rwa [Int.toNat_of_nonneg h0] at this
 rw [e];exact k _ (cQ O) (gX O)
theorem bP {s:σ} {g:ρ->Option β} (I:Nat->σ->Prop) (post:ρ->Prop) (N:Nat) (h0:I 0 s)
  (hs:∀ k s,k<=N->I k s->Ok (B s) fun r=>match r with
   | .go s'=>k<N/\I (k+1) s'
   | .out r=>post r)
  (k:∀ r,post r->Ok (g r) R):Ok ((Go.Proofs.YtcpplgcgcbihoaaGreatDoor.loop B s).bind g) R:=by
 obtain⟨r,h1,h2⟩:=rO (B:=B) I post N (fun k s O hI=>by
   obtain⟨y,e,hy⟩:=hs k s (by omega) hI;cases y with
   | go s'=>exact .inl ⟨s',e,hy.2⟩
   | out r=>exact .inr ⟨r,e,hy⟩) (fun s hI=>by
   obtain⟨y,e,hy⟩:=hs N s (bZ _) hI;cases y with
   | go s'=>exact absurd hy.1 (by omega)
   | out r=>exact⟨r,e,hy⟩) h0
 rw [h1];exact k r h2
end
end
section
open Go.RowKit
open Go.Lib hiding intOf
section
variable {σ ρ α:Type} {B:σ->Option (Fl σ ρ)}
theorem jx (st:Nat->σ) (m:Nat) {s0:σ} (h0:s0=st 0) {r:ρ} (hgo:∀ k,k<m->B (st k)=some (.go (st (k+1)))) (hout:B (st m)=some (.out r)):loop B s0=some r:=by
 subst h0;exact Aq (fun k s=>s=st k) r m (fun k s O hs=>.inl ⟨st (k+1),by rw [hs]; exact hgo k O,rfl⟩) (fun s hs=>by rw [hs]; exact hout) rfl
theorem un {xs:List α} (p:α->Bool) (st:Nat->σ) {s0:σ} (h0:s0=st 0) {y:Nat->α->ρ} {n:ρ} (hgo:∀ k x,xs[k]? = some x->p x=false->B (st k)=some (.go (st (k+1))))
  (hy:∀ k x,xs[k]? = some x->p x=true->B (st k)=some (.out (y k x))) (hn:B (st xs.length)=some (.out n)) :
  (∃ k x,xs[k]? = some x/\p x=true/\(∀ j z,j<k->xs[j]? = some z->p z=false)/\loop B s0=some (y k x))∨(∀ z∈xs,p z=false)/\loop B s0=some n:=by
 by_cases h:xs.findIdx p<xs.length
 ·have e:=cQ h;have hp:=List.findIdx_getElem (w:=h);have hb:∀ j z,j<xs.findIdx p->xs[j]? = some z->p z=false:=fun j z hj hz=>by
   have:=List.not_of_lt_findIdx hj;obtain⟨h1,h2⟩:=cm.1 hz;rw [h2] at this; simpa using this
  refine .inl ⟨_,_,e,hp,hb,jx st _ h0 (fun k O=>?_) (hy _ _ e hp)⟩;have hk2:k<xs.length:=by omega
  exact hgo k _ (cQ hk2) (hb k _ O (cQ hk2))
 ·have hb:∀ j z,xs[j]? = some z->p z=false:=fun j z hz=>by
   obtain⟨h1,h2⟩:=cm.1 hz;have:=List.not_of_lt_findIdx (p:=p) (xs:=xs) (i:=j) (by omega);rw [h2] at this; simpa using this
  refine .inr ⟨fun z hz=>?_,jx st xs.length h0 (fun k O=>hgo k _ (cQ O) (hb k _ (cQ O))) hn⟩;obtain⟨i,hi⟩:=ot.1 hz;exact hb i z hi
theorem tP {xs:List α} (p:α->Bool) (st:Nat->σ) {s0:σ} (h0:s0=st 0) {y n:ρ} (hgo:∀ k x,xs[k]? = some x->p x=false->B (st k)=some (.go (st (k+1))))
  (hy:∀ k x,xs[k]? = some x->p x=true->B (st k)=some (.out y)) (hn:B (st xs.length)=some (.out n)):loop B s0=some (if xs.any p then y else n):=by
 rcases un p st h0 (y:=fun _ _=>y) hgo hy hn with⟨k,x,h1,h2,_,h3⟩|⟨h1,h2⟩
 ·rw [if_pos (BO.2 ⟨x,aK h1,h2⟩)]; exact h3
 ·rw [if_neg (fun h=>by obtain⟨x,hx,e⟩:=BO.1 h; rw [h1 x hx] at e; cases e)]; exact h2
theorem dG {xs:List α} (st:Nat->σ) {s0:σ} (h0:s0=st 0) {r:ρ} (hgo:∀ k x,xs[k]? = some x->B (st k)=some (.go (st (k+1)))) (hout:B (st xs.length)=some (.out r)):loop B s0=some r :=
 jx st xs.length h0 (fun k O=>hgo k _ (cQ O)) hout
theorem fL {β γ:Type} {m:Option β} {v:β} {f:β->Option γ} {y:Option γ} (h:m=some v) (k:f v=y):m.bind f=y:=by subst h; exact k
end
theorem bj {α:Type} (xs:List α) (k:Nat):bG xs (k:Int)=xs[k]?:=by simp [bG]
theorem dlt {k n:Nat} (h:k<n):decide ((k:Int)<(n:Int))=true:=decide_eq_true (by omega)
theorem LM {k n:Nat} (h:¬ k<n):decide ((k:Int)<(n:Int))=false:=decide_eq_false (by omega)
theorem iK {α:Type} {xs:List α} {k:Nat} {x:α} (h:xs[k]? = some x):decide ((k:Int)<(xs.length:Int))=true:=dlt (cm.1 h).1
theorem bS (n:Nat):decide ((n:Int)<(n:Int))=false:=LM (Nat.lt_irrefl _)
theorem cL {k:Nat} (h:k<=9223372036854775806):IntKind.i64.wrap ((k:Int)+1)=((k+1:Nat):Int):=by rw [lx (by omega) (by omega)]; omega
theorem bg {α:Type} {xs:List α} {k:Nat} {x:α} (h:xs[k]? = some x):k<xs.length:=(cm.1 h).1
theorem bM {α:Type} {xs:List α} {k:Nat} {x:α} (h:xs[k]? = some x):xs.take (k+1)=xs.take k++[x]:=by
 rw [List.take_add_one,h]; rfl
theorem uU {α:Type} (p:α->Bool) (xs:List α) (k:Nat):((xs.take k).filter p).length<=xs.length :=
 cI (List.length_filter_le _ _) (by rw [fe]; omega)
def Rm (n:Nat):Prop:=n<=1000000000
theorem yu {α:Type} {xs:List α} {a:Nat} (h:a<=xs.length):tY xs (a:Int) (xs.length:Int)=some (xs.drop a):=by
 rw [Hv h (bZ _),fK]
theorem tZ {α:Type} {xs:List α} {a:Nat} (h:a<=xs.length):tY xs 0 (a:Int)=some (xs.take a):=by
 have:=Hv (xs:=xs) (bT a) h;rwa [BP] at this
end
section
abbrev Dt:BitVec 64:=0x42f0e1eba9ea3693#64
def vf (c:BitVec 64):BitVec 64:=(c <<< 1) ^^^ (if c.msb=true then Dt else 0#64)
def tI (c:BitVec 64) (b:Bool):BitVec 64:=(c <<< 1) ^^^ (if (c.msb != b)=true then Dt else 0#64)
theorem EG (a b:BitVec 64) (n:Nat):(a ^^^ b) <<< n=(a <<< n) ^^^ (b <<< n):=by
 apply BitVec.eq_of_getLsbD_eq;intro i hi;simp only [BitVec.getLsbD_shiftLeft,BitVec.getLsbD_xor];cases decide (i<64) <;> cases decide (i<n) <;> simp
theorem Du (y w:BitVec 64) (k:Nat):vf (y ^^^ (w <<< k))=tI y (w <<< k).msb ^^^ (w <<< (k+1)):=by
 unfold vf tI;rw [EG,BitVec.msb_xor,BitVec.shiftLeft_add];rw [FE,FE,BitVec.xor_comm ((w <<< k) <<< 1)]
def ff:Nat->BitVec 64->BitVec 64
 | 0,c=>c
 | n+1,c=>ff n (vf c)
theorem wK:∀ n m c,ff (n+m) c=ff m (ff n c)
 | 0,m,c=>by rw [n4]; rfl
 | n+1,m,c=>by rw [Nat.succ_add]; exact wK n m (vf c)
abbrev px (b:UInt8):BitVec 64:=BitVec.ofNat 64 b.toNat
def lp (c:BitVec 64):List UInt8->BitVec 64
 | []=>c
 | b::l=>lp (ff 8 (c ^^^ (px b <<< 56))) l
end
section
open Go.RowKit
open Go.Lib hiding intOf
theorem zF (s:ByteArray):s.data.toList=s.toList:=(ByteArray.toList_eq s).symm
def rL (a b:ByteArray):Option Int:=some (Lib.compareBytes a.toList b.toList)
theorem qn (T:Nat->Prop) (L:World) (hT:∀ k,T k->k<L.heap.size) (hLv:fi T L) (a b:ByteArray) (y:Int) (B:rL a b=some y):bc aO No 152 [.string a,.string b] L fun v w'=>v = .int .i64 y:=by
 refine Calls.mono (Tryz.strings_Compare a b L) ?_;rintro e w' ⟨rfl,rfl⟩;refine⟨_,rfl,aj _ _,?_⟩;rw [zF,zF,<- cJ B]
end
section
open Go.RowKit
variable {pos:String} {af:Array Edge} {g:Option (Nat×Bool)}
def NG (f g:cD):cD:=⟨fun T w=>f.p T w/\g.p T w,fun h k n=>⟨f.keep h.1 k n,g.keep h.2 k n⟩⟩
def MJ:cD:=⟨fun _ _=>True,fun _ _ _=>trivial⟩
section
variable {P:Program} {W:World} {M T E:Nat->Prop} {n:Nat} {G G':List (Nat×Value)} {D D' D0 Dr rs:List cZ} {F F':List cD} {a:Act} {w w':World} {K:Act->World->Prop}
theorem vS {d:Option Nat} {f:Nat} {caps:Array Operand} {ty:TypeId} {vs:bC} (I:St W M T n G D F a w) (hv:evs G caps.toList=some vs) :
  Ye P ⟨d,.makeFunc (.func f) #[] caps,ty,pos,af,g⟩ a E w (.func (.func f) #[] vs.toArray) :=
 Ye.of fun w=>by
  have h1:(caps.map a.eval)=vs.toArray:=by
   apply FN.1;rw [HI,I.evs hv]
  simp [execOp,Instr.makeFunc,h1]
theorem St.zx {b:Nat} {cs:bC} {t:TypeId} (h:St W M T n G D F a w) (i:Nat) (hi:D[i]? = some (.box b cs t)):St W M T n G (D.eraseIdx i) (eH b 0 cs::F) a w:=by
 have hlt:=(cm.1 hi).1;have hD:=(cm.1 hi).2;have ho:w.heap[b]? = some (.cells cs.toArray t (0,0)):=h.own _ (aK hi);refine (h.drop i).fact _ ⟨fun hT=>?_,(Cv.1 ho).1,fun j u hu=>?_⟩
 ·rcases hT with hT | ⟨s,hs,hT⟩
  ·exact (h.free _ (aK hi) b rfl).1 hT
  ·obtain⟨z,hz⟩:=ot.1 hs;rw [BR] at hz;split at hz
   ·rename_i hzi;have hzl:=(cm.1 hz).1;have:=fJ.1 h.apart z i hzl hlt hzi b (by rw [(cm.1 hz).2]; exact hT);rw [hD] at this; exact this rfl
   ·rename_i hzi;have hzl:=(cm.1 hz).1;have:=fJ.1 h.apart i (z+1) hlt hzl (by omega) b (by rw [hD]; rfl);rw [(cm.1 hz).2] at this; exact this hT
 ·rw [n4,(Cw.of ho).cell];simpa using hu
theorem pi.mid {e:TypeId} {sz:Nat} {v:Value} {cl us:bC} {B:Nat} (h:pi w B e sz v cl) (o:Nat) (hl:o+us.length<=cl.length) (hpos:0<us.length) :
  ∃ g off m c cs,v = .slice (some ⟨g,off,none⟩) m c/\cl.length=m*sz/\m<=c/\Cw w g cs e/\off+c*sz<=cs.size/\pi (w.setCells g (off+o) us) B e sz v (ov cl o us)/\(∀ j,j<us.length->(w.cell? ⟨g,off+o+j,none⟩).isSome=true)/\(∀ j,j<us.length->w.frozen? ⟨g,off+o+j,none⟩=false):=by
 rcases h with⟨_,rfl⟩|⟨g,off,m,c,cs,rfl,h1,hb,hg,hmc,hc,hsz,hcs⟩
 ·simp only [rp] at hl; omega
 have hmz:m*sz<=c*sz:=mM _ hmc;refine⟨g,off,m,c,cs,rfl,h1,hmc,hg,hsz,?_,fun j hj=>?_,fun j hj=>hg.free (by omega)⟩
 ·obtain⟨fz,hg1,hfz⟩:=hg;obtain⟨cs',a1,a2,a3,a4⟩:=ma g e fz us (off+o) w cs hg1;refine .inr ⟨g,off,m,c,cs',rfl,?_,hb,⟨fz,a1,by rw [a2]; exact hfz⟩,hmc,hc,by rw [a2]; exact hsz,fun j u hu=>?_⟩
  ·unfold ov; simp only [bm,fe,nr]; omega
  ·rw [yr _ _ _ _ hl] at hu;split at hu
   ·rename_i hj;have:=a4 (by omega) _ u hu;rwa [show off+o+(j-o)=off+j by omega] at this
   ·rename_i hj;rw [a3 _ (by omega)]; exact hcs j u hu
 ·rw [hg.cell,Al (by omega)]; rfl
theorem aY.mid {α:Type} {R:aL α} {T:Nat->Prop} {w:World} {cl us:bC} {xs ys:List α} (h:aY R T w cl xs) (k:aY R T w us ys) {lo:Nat} (hl:lo+ys.length<=xs.length):aY R T w (ov cl (lo*R.size) us) (xs.take lo++ys++xs.drop (lo+ys.length)):=by
 have h1:=h.cut (bT lo) (by omega);have h2:=h.cut hl (bZ _);rw [Nat.zero_mul,BP,BP] at h1;rw [fK,zk (by rw [h.1]; exact bZ _)] at h2;have h3:=(h1.append k).append h2;unfold ov;rw [k.1,<- ju];exact h3
theorem cD.dn (f:cD) {T:Nat->Prop} {w:World} (h:f.p T w):f.p (dT T []) w:=f.keep h (aj _ _) fun k O=>by
 rcases O with O | ⟨r,hr,_⟩
 ·exact .inl O
 ·cases hr
end
section
variable {κ ν:Type} {P:Program} {W:World} {M T E:Nat->Prop} {n:Nat} {G G':List (Nat×Value)} {D D':List cZ} {F F':List cD} {a:Act} {w w':World} {K:Act->World->Prop}
variable {kt et:TypeId} {RK:aL κ} {ak:Bool} {RV:aL ν} {av:Bool} {q:κ->κ->Bool} {b clock:Nat} {es:Array MapEntry} {xs:List (κ×ν)}
theorem N6 {t t2 ty:TypeId} {X Y:Operand} (I:St W M T n G D F a w) (ht:Ip P t=some (kt,et)) (hK:yI P kt RK ak q) (i:Nat) (hi:D[i]? = some (.obj b (.map es clock))) (j:Nat) (hj:F[j]? = some (qi RK ak RV av es xs))
  {c:bC} {key:κ} (hc:RK.rel (dT T D) w c key) (hX:ev G X=some (.map (some b))) (hY:ev G Y=some (bB ak c))
  (k:∀ es' ck' w',Kt (fun j=>j=b) w w'->St W M T n G (D.set i (.obj b (.map es' ck'))) (qi RK ak RV av es' (td q key xs)::F) a w'->K a w'):ru P ⟨none,.call { callee:=.builtin .delete,args:=#[X,Y],argTypes:=#[t,t2] },ty,pos,af,g⟩ a w K:=by
 have hr:w.heap[b]? = some (.map es clock):=I.own _ (aK hi);have hm:=I.mapOk j hj;obtain⟨hl,hkeys⟩:=wm hm;have hf:=r9 hK hc w hl hkeys;have hch:=hK.check es.isEmpty _ _ w _ _ hc;have fin:∀ es' ck',(Builtin.delete_ #[t,t2] ty #[.map (some b),bB ak c]).run P w = .ok (.tuple #[]) { w with heap:=w.heap.setIfInBounds b (.map es' ck') }->cb RK ak RV av (dT T D) w es' (td q key xs)->ru P ⟨none,.call { callee:=.builtin .delete,args:=#[X,Y],argTypes:=#[t,t2] },ty,pos,af,g⟩ a w K:=fun es' ck' hrun hok=>by
  refine A7 (w':={ w with heap:=w.heap.setIfInBounds b (.map es' ck') }) (v:=.tuple #[]) (by simp [execOp,resolve,invoke,builtin,I.ev hX,I.ev hY,hrun]) (k es' ck' _ ((q9 hr).mono fun j hj=>(cJ hj).symm) ?_);exact (I.fact (qi RK ak RV av es' _) hok).turn hi (q9 hr) (r':=.obj b (.map es' ck')) (qU hr).1 fun j hj=>.inl hj
 cases hp:uq q key xs with
 | none =>
  obtain⟨_,_,g3⟩:=rP hp;rw [hp] at hf;refine fin es clock ?_ (by rw [g3]; exact hm);simp [Builtin.delete_,run_underlying (nA ht),xg hr,hch,hf,Am,D7 _ hr]
 | some p =>
  obtain⟨x0,hx0,hq0,_,_,g3⟩:=rQ hp;have hpi:p<es.size:=by rw [hm.1]; exact (cm.1 hx0).1
  have he0:es[p]? = some es[p]:=Al hpi;rw [hp] at hf;have hat:Am es.toList 0 (some p)=some (p,es[p].val):=by simp [Am,he0]
  rw [hat] at hf;refine fin (es.eraseIdxIfInBounds p) clock ?_ ⟨?_,fun z e x he hx=>?_⟩
  ·simp [Builtin.delete_,run_underlying (nA ht),xg hr,hch,hf,D7 _ hr]
  ·rw [g3];have h1:(es.eraseIdxIfInBounds p).size=es.size-1:=by simp [Array.eraseIdxIfInBounds,hpi]
   rw [h1,List.length_eraseIdx,if_pos (by rw [<- hm.1]; exact hpi),hm.1]
  ·rw [g3,BR] at hx;have he2:(es.eraseIdxIfInBounds p)[z]? = if z<p then es[z]? else es[z+1]?:=by
    simp only [Array.eraseIdxIfInBounds,hpi,dif_pos];rw [Array.getElem?_eraseIdx]
   rw [he2] at he;split at hx
   ·rename_i hz;rw [if_pos hz] at he;exact hm.2 z e x he hx
   ·rename_i hz;rw [if_neg hz] at he;exact hm.2 (z+1) e x he hx
end
end
section
open Go.RowKit
section
variable {P:Program} {W:World} {M T E:Nat->Prop} {n:Nat} {G G':List (Nat×Value)} {D D' D0 Dr rs:List cZ} {F F':List cD} {a:Act} {w w':World} {K:Act->World->Prop}
theorem St.notD {r:cZ} (h:St W M T n G D F a w) (i:Nat) (hi:D[i]? = some r) {k:Nat} (O:r.dom k):¬ dT T (D.eraseIdx i) k:=by
 have hlt:=(cm.1 hi).1;have hD:=(cm.1 hi).2;rintro (hT | ⟨s,hs,hT⟩)
 ·exact (h.free _ (aK hi) k O).1 hT
 ·obtain⟨z,hz⟩:=ot.1 hs;rw [BR] at hz;split at hz
  ·rename_i hzi;have hzl:=(cm.1 hz).1;have:=fJ.1 h.apart z i hzl hlt hzi k (by rw [(cm.1 hz).2]; exact hT);rw [hD] at this; exact this O
  ·rename_i hzi;have hzl:=(cm.1 hz).1;have:=fJ.1 h.apart i (z+1) hlt hzl (by omega) k (by rw [hD]; exact O);rw [(cm.1 hz).2] at this; exact this hT
end
end
section
open Go.RowKit
section
variable {α ν β:Type}
variable {N}
variable {P:Program} {W:World} {M T E:Nat->Prop} {n:Nat} {G G':List (Nat×Value)} {D D' D0 Dr rs:List cZ} {F F':List cD} {a:Act} {w w':World} {K:Act->World->Prop}
end
end
end Go.Proofs.YtcpplgcgcbihoaaGreatDoor
