/- Texts of the proof, joined (0). -/
import Derived.Test.YtdcojaccpnabkaaGreatDoorProg
import Derived.WalkKit
import Derived.WalkSpells
import Derived.WalkLawsBesides
import Derived.BigQuiet
import Derived.Deep.QuietTactic
import Derived.Deep.CutBlock
import Derived.Deep.DeepCutAuto
import Derived.Laws.OwnMore
import Derived.Laws.IdiomCopy
import Derived.ArgAppend
import Derived.Deep.Draws
import Derived.RegionTactic
import Derived.Deep.RegionWith
import Derived.Deep.RegionHeld3
import Derived.Deep.RegionLaw
import Derived.Laws.Rows
import Derived.Laws.Tables
import Derived.Laws.CopyRow
import Derived.Laws.MakeOwn
import Derived.Great.BuildSlice
import Derived.Orders
import Derived.Laws.Small
import Derived.Laws.StructEq
import Derived.Laws.Cover3
import Derived.WideLaws
import Derived.Lib.AppendStr
import Derived.Lib.ConvBytes
import Derived.Laws.BytesString
import Derived.Lib.SmallJoins
import Derived.Lib.ItoaNum
import Derived.Lib.AtoiAll
import Derived.Shelf.Small.Strs
import Derived.Shelf.Small.Wraps
import Derived.Shelf.Strconv.Atoi
import Derived.Shelf.Strconv.Itoa0
import Derived.Shelf.Strconv.Itoa1
import Derived.Shelf.LaysM
import Derived.Shelf.Strconv.Itoa2
import Derived.Shelf.Strconv.Itoa3
import Derived.Shelf.Strconv.AtoiErrFast
import Derived.Shelf.Strconv.ParseIntEmpty
import Derived.Shelf.Strconv.AtoiFail
import Derived.Shelf.Strconv.Clone
import Derived.Shelf.Strconv.SyntaxError
import Derived.Shelf.LaysC
import Derived.Shelf.Strconv.ToError
import Derived.Shelf.Strconv.Lower
import Derived.Shelf.Strconv.ParseUint10
import Derived.Shelf.Strconv.ParseUint10Empty
import Derived.Shelf.Strconv.ParseUint10Any
import Derived.Shelf.Strconv.ParseInt10
import Derived.Shelf.Strconv.AtoiLong
import Derived.Shelf.Strconv.AtoiInnerAll
import Derived.Shelf.Strconv.RangeError
import Derived.Shelf.Strconv.ToErrorRange
import Derived.Shelf.Strconv.AtoiAll
import Derived.Shelf.Strconv.ErrVarAll
import Derived.Lib.AppendIntMem
import Derived.IntWalk
set_option linter.unusedVariables false
set_option linter.unusedSimpArgs false
set_option linter.unusedSectionVars false
namespace Go.Proofs.YtdcojaccpnabkaaGreatDoor
section
open Go.RowKit
abbrev ru:=@Int.le_refl
abbrev mA:=@List.not_mem_nil
abbrev vr:=@List.Pairwise.nil
abbrev dQ:=@List.mem_cons
abbrev ez:=@Nat.zero_le
abbrev dq:=@List.mem_singleton
abbrev I4:=@List.pairwise_singleton
abbrev px:=@List.mem_cons_self
abbrev tR:=@List.mem_cons_of_mem
abbrev vt:=@List.pairwise_cons
abbrev aD:=@Option.bind_some
abbrev cM:=@Nat.le_refl
abbrev ik:=@Nat.lt_or_ge
abbrev bO:=@Option.some.inj
abbrev od:=@List.length_map
abbrev bC:=@List.getElem?_eq_getElem
abbrev FO:=@Classical.byContradiction
abbrev gZ:=@List.mem_iff_getElem?
abbrev aH:=@List.mem_of_getElem?
abbrev CW:=@List.foldl_cons
abbrev tf:=@Bool.or_eq_true
abbrev eS:=@List.mem_map
abbrev oe:=@Int.toNat_natCast
abbrev Bq:=@List.take_of_length_le
abbrev cW:=@List.length_append
abbrev rH:=@List.getElem?_map
abbrev og:=@List.getElem?_append_left
abbrev qA:=@List.getElem?_append_right
abbrev g9:=@List.length_cons
abbrev rI:=@List.length_nil
abbrev cH:=@Nat.le_trans
abbrev cg:=@List.mem_append
abbrev sv:=@Bool.not_eq_true'
abbrev nX:=@Bool.and_eq_true
abbrev bD:=@List.getElem?_eq_some_iff
abbrev yU:=@Nat.sub_self
abbrev Br:=@List.getElem?_cons_zero
abbrev cE:=@Option.some.injEq
abbrev xC:=@Prod.mk.injEq
abbrev yV:=@List.getElem?_cons_succ
abbrev vL:=@Nat.add_assoc
abbrev CX:=@List.getElem_of_mem
abbrev mD:=@Nat.mul_le_mul_right
abbrev gv:=@List.mem_append_left
abbrev tg:=@List.getElem?_set_self
abbrev gc:=@List.mem_filter
abbrev ti:=@List.pairwise_append
abbrev CY:=@List.Pairwise.filter
abbrev xD:=@List.filter_cons_of_pos
abbrev tj:=@List.filter_cons_of_neg
abbrev il:=@List.length_take
abbrev vM:=@List.filter_eq_self
abbrev CZ:=@List.filter_eq_nil_iff
abbrev lI:=@List.filter_append
abbrev pn:=@List.getElem?_take
abbrev gw:=@List.pairwise_iff_getElem
abbrev lJ:=@List.take_length
abbrev nY:=@Bool.not_false
abbrev iL:=@List.getElem_mem
abbrev im:=@Bool.not_true
abbrev qB:=@Nat.le_of_eq
abbrev vN:=@List.find?_eq_none
abbrev Bs:=@List.append_assoc
abbrev Bt:=@List.take_append_drop
abbrev rJ:=@List.length_drop
abbrev Bu:=@List.nil_append
abbrev sw:=@List.getElem?_drop
abbrev qC:=@Nat.add_zero
abbrev C0:=@List.drop_length
abbrev oh:=@Nat.le_of_ble_eq_true
abbrev ol:=@List.mem_append_right
abbrev xF:=@Nat.lt_of_lt_of_le
abbrev xG:=@List.append_nil
abbrev C1:=@List.length_filter_le
abbrev vO:=@List.map_append
abbrev vP:=@List.length_singleton
abbrev C2:=@List.any_eq_false
abbrev iM:=@Nat.add_mul
abbrev sx:=@Nat.zero_add
abbrev vQ:=@Nat.mul_right_cancel
abbrev vR:=@Nat.eq_zero_or_pos
abbrev FP:=@Array.getD_eq_getD_getElem?
abbrev yW:=@List.nodup_cons
abbrev xH:=@Nat.lt_or_gt_of_ne
abbrev Bv:=@Array.toList_inj
abbrev yX:=@UInt8.not_lt
abbrev C3:=@List.mem_map_of_mem
abbrev C4:=@Array.getElem?_eq_none
abbrev C5:=@Array.any_eq_true'
abbrev xI:=@Nat.eq_of_beq_eq_true
abbrev sA:=@Array.getElem?_eq_some_iff
abbrev tl:=@List.getElem?_set_ne
abbrev uL:=@List.map_cons
abbrev xJ:=@List.eq_nil_of_length_eq_zero
abbrev FQ:=@List.getD_eq_getElem?_getD
abbrev C6:=@Option.map_eq_some_iff
abbrev nZ:=@Option.map_some
abbrev FR:=@Array.getElem?_push_lt
abbrev sB:=@Array.getElem?_eq_getElem
abbrev yY:=@List.getElem?_eq_none
abbrev zQ:=@Array.getElem?_push_size
abbrev vm:=@Option.getD_some
abbrev ss:=@Array.getElem?_modify
abbrev vn:=@List.flatMap_cons
abbrev n9:=@Bool.true_and
abbrev vo:=@List.mem_range
abbrev rv:=@List.getElem?_set
abbrev su:=@Exists.intro
abbrev zR:=@Int.mul_le_mul_of_nonneg_right
abbrev tP:=@Int.mul_assoc
abbrev zS:=@Nat.pow_le_pow_right
abbrev zT:=@Nat.testBit_lt_two_pow
abbrev xA:=@List.map_nil
abbrev Ce:=@List.drop_eq_getElem_cons
abbrev zU:=@Nat.min_eq_left
abbrev Cf:=@List.mem_of_mem_eraseIdx
abbrev tQ:=@List.getElem?_eraseIdx
abbrev rx:=@List.any_eq_true
abbrev vp:=@Int.tmod_lt_of_pos
abbrev vq:=@Int.tmod_nonneg
abbrev xB:=@List.getElem_set_ne
abbrev ba:=List Value
noncomputable abbrev aO:=Tryz.prog
abbrev al (x:Int):Value:=.int .i64 x
abbrev aZ (x:ByteArray):Value:=.string x
abbrev bW:ByteArray:=ByteArray.mk #[]
def Dr (w w':World):Prop:=∃ n,w'=w.drewN n
theorem Dr.refl (w:World):Dr w w:=⟨0,rfl⟩
theorem Dr.next {w a:World} (h:Dr w a) (n:Nat):Dr w (a.drewN n):=by
 obtain⟨m,rfl⟩:=h; exact⟨m+n,by rw [World.drewN_drewN]⟩
theorem Dr.trans {w a b:World} (h:Dr w a) (k:Dr a b):Dr w b:=by
 obtain⟨m,rfl⟩:=k; exact h.next m
theorem Dr.below {w a:World} (h:Dr w a) (B:Nat):Below B w a:=by
 obtain⟨m,rfl⟩:=h; exact⟨rfl,rfl,rfl,cM _,fun _ _=>rfl⟩
theorem BH {a w w':World} (h:Below a.heap.size a w) (k:Below w.heap.size w w'):Below a.heap.size a w':=h.trans (k.mono h.size)
structure HS (P:Program) (t e:TypeId) (size bytes:Nat):Prop where
 ht:P.underlying t=some (.slice e)
 hi:∃ i z,P.info? e=some i∧i.zero=some z∧i.size=size∧i.bytes=bytes∧z.cells.size=size
 pos:0<size
def Sl {α:Type} (enc:α→ba) (size:Nat) (w:World) (B:Nat) (v:Value) (xs:List α):Prop :=
 ∃ A c,v = .slice A xs.length c∧xs.length≤c∧c≤maxLen ∧
  (xs=[]∨∃ b off,A=some ⟨b,off,none⟩∧b<B∧∀ k x,xs[k]? = some x→∀ j u,(enc x)[j]? = some u→w.cell? ⟨b,off+k*size+j,none⟩=some u)
section
variable {α:Type} {enc:α→ba} {size:Nat} {w w':World} {B B':Nat} {v:Value} {xs:List α}
theorem Sl.keep (h:Sl enc size w B v xs) (hk:∀ p:Addr,p.block<B→w'.cell? p=w.cell? p):Sl enc size w' B v xs:=by
 obtain⟨A,c,e,h1,h2,h3⟩:=h;refine⟨A,c,e,h1,h2,?_⟩;rcases h3 with h3 | ⟨b,off,e2,hb,hc⟩
 ·exact .inl h3
 ·exact .inr ⟨b,off,e2,hb,fun k x hx j u hu=>(hk _ hb).trans (hc k x hx j u hu)⟩
theorem Sl.below (h:Sl enc size w B v xs) (hb:Below B w w'):Sl enc size w' B v xs:=h.keep fun _ hp=>hb.cell hp
theorem Sl.more (h:Sl enc size w B v xs) (hB:B≤B'):Sl enc size w B' v xs:=by
 obtain⟨A,c,e,h1,h2,h3⟩:=h;refine⟨A,c,e,h1,h2,?_⟩;rcases h3 with h3 | ⟨b,off,e2,hb,hc⟩
 ·exact .inl h3
 ·exact .inr ⟨b,off,e2,by omega,hc⟩
theorem Sl.later (h:Sl enc size w w.heap.size v xs) (hb:Below w.heap.size w w'):Sl enc size w' w'.heap.size v xs:=(h.below hb).more hb.size
theorem Sl.nil_ (c:Nat) (A:Option Addr) (hc:c≤maxLen):Sl enc size w B (.slice A 0 c) []:=⟨A,c,rfl,ez _,hc,.inl rfl⟩
end
def At (w:World) (A:Option Addr) (cs:ba):Prop:=cs=[]∨∃ b off,A=some ⟨b,off,none⟩∧∀ j u,cs[j]? = some u→w.cell? ⟨b,off+j,none⟩=some u
def HQ (A:Option Addr) (B:Nat) (cs:ba):Prop:=cs=[]∨∃ b off,A=some ⟨b,off,none⟩∧b<B
theorem At.below {w w':World} {A:Option Addr} {cs:ba} {B:Nat} (h:At w A cs) (hl:HQ A B cs) (hb:Below B w w'):At w' A cs:=by
 rcases h with h | ⟨b,off,e,h⟩
 ·exact .inl h
 ·rcases hl with hl | ⟨b',off',e',hl⟩
  ·exact .inl hl
  ·rw [e] at e'; injection e' with e'; injection e' with e1 e2; subst e1 e2;exact .inr ⟨b,off,e,fun j u hu=>(hb.cell (by exact hl)).trans (h j u hu)⟩
theorem At.later {w w':World} {A:Option Addr} {cs:ba} (h:At w A cs) (hl:HQ A w.heap.size cs) (hb:Below w.heap.size w w'):At w' A cs:=h.below hl hb
theorem rU {α:Type} {enc:α→ba} {size:Nat} (he:∀ x,(enc x).length=size) (xs:List α):(xs.flatMap enc).length=xs.length*size:=by
 induction xs with
 | nil=>simp
 | cons x r ih=>simp only [vn,cW,he,ih,g9]; rw [iM]; omega
theorem wQ {α:Type} {enc:α→ba} {size:Nat} (he:∀ x,(enc x).length=size):∀ (xs:List α) (k j:Nat) (x:α),xs[k]? = some x→j<size→(xs.flatMap enc)[k*size+j]? = (enc x)[j]?
 | [],k,j,x,h,_=>by simp at h
 | y::r,0,j,x,h,hj=>by
  simp only [Br,cE] at h;subst h;simp only [vn,Nat.zero_mul,sx];rw [og (by rw [he]; exact hj)]
 | y::r,k+1,j,x,h,hj=>by
  simp only [yV] at h;have:=wQ he r k j x h hj;simp only [vn];rw [qA (by rw [he,iM]; omega),he,← this];congr 1;rw [iM]; omega
theorem Sl.at_ {α:Type} {enc:α→ba} {size:Nat} {w:World} {B:Nat} {A:Option Addr} {n c:Nat} {xs:List α} (he:∀ x,(enc x).length=size) (hs:0<size) (h:Sl enc size w B (.slice A n c) xs) :
  n=xs.length∧At w A (xs.flatMap enc)∧HQ A B (xs.flatMap enc):=by
 obtain⟨A',c',e,h1,h2,h3⟩:=h;injection e with e1 e2 e3;subst e1 e2 e3;refine⟨rfl,?_⟩;rcases h3 with rfl | ⟨b,off,e2,hb,hc⟩
 ·exact⟨.inl (by simp),.inl (by simp)⟩
 ·refine⟨?_,.inr ⟨b,off,e2,hb⟩⟩;right;refine⟨b,off,e2,fun j u hu=>?_⟩;have hl:=rU he xs;have hj:j<xs.length*size:=by rw [← hl]; exact (bD.1 hu).1
  have hk:j / size<xs.length:=by rw [Nat.div_lt_iff_lt_mul hs]; exact hj
  have hx:xs[j / size]? = some xs[j / size]:=bC hk;have hm:=Nat.div_add_mod' j size;have hf:=wQ he xs (j / size) (j % size) _ hx (Nat.mod_lt _ hs);rw [hm] at hf;have:=hc _ _ hx (j % size) u (by rw [← hf]; exact hu);rwa [vL,hm] at this
def yk (w:World) (g:Nat) (cs:Array Value) (e:TypeId):Prop:=∃ fz:Nat×Nat,w.heap[g]? = some (.cells cs e fz)∧(fz=(0,0)∨cs.size≤fz.1)
theorem yk.of {w:World} {g:Nat} {cs:Array Value} {e:TypeId} (h:w.heap[g]? = some (.cells cs e (0,0))):yk w g cs e:=⟨_,h,.inl rfl⟩
theorem yk.lt {w:World} {g:Nat} {cs:Array Value} {e:TypeId} (h:yk w g cs e):g<w.heap.size:=by
 obtain⟨fz,h1,_⟩:=h;exact (sA.1 h1).1
theorem yk.eqb {w w':World} {g:Nat} {cs:Array Value} {e:TypeId} (h:yk w g cs e) (hb:w'.heap[g]? = w.heap[g]?):yk w' g cs e:=by
 obtain⟨fz,h1,h2⟩:=h;exact⟨fz,hb.trans h1,h2⟩
theorem yk.cell {w:World} {g:Nat} {cs:Array Value} {e:TypeId} (h:yk w g cs e) (o:Nat):w.cell? ⟨g,o,none⟩=cs[o]?:=by
 obtain⟨fz,h1,_⟩:=h;exact cell_of_row w g o cs e fz h1
theorem yk.free {w:World} {g:Nat} {cs:Array Value} {e:TypeId} (h:yk w g cs e) {o:Nat} (ho:o<cs.size):w.frozen? ⟨g,o,none⟩=false:=by
 obtain⟨fz,h1,h2⟩:=h;simp only [World.frozen?,h1];rcases h2 with rfl | h2
 ·simp
 ·simp; omega
theorem yk.ty {w:World} {g:Nat} {cs cs2:Array Value} {e e2:TypeId} (h:yk w g cs e) (k:yk w g cs2 e2):e=e2:=by
 obtain⟨fz,h1,_⟩:=h;obtain⟨fz2,h2,_⟩:=k;rw [h1] at h2;injection h2 with h2;injection h2
def lN (w:World) (B:Nat) (e:TypeId) (size:Nat) (v:Value) (xs:ba):Prop :=
 (v = .slice none 0 0∧xs=[]) ∨
 ∃ g off n cap cs,v = .slice (some ⟨g,off,none⟩) n cap∧xs.length=n*size∧B≤g∧yk w g cs e∧n≤cap∧cap≤maxLen∧off+cap*size≤cs.size ∧
  ∀ j u,xs[j]? = some u→cs[off+j]? = some u
theorem mq (g:Nat) (e:TypeId) (fr:Nat×Nat):∀ (vs:ba) (o:Nat) (w:World) (cs:Array Value),w.heap[g]? = some (.cells cs e fr) →
  ∃ cs',(w.setCells g o vs).heap[g]? = some (.cells cs' e fr)∧cs'.size=cs.size∧(∀ j,(j<o∨o+vs.length≤j)→cs'[j]? = cs[j]?)∧(o+vs.length≤cs.size→∀ j u,vs[j]? = some u→cs'[o+j]? = some u)
 | [],o,w,cs,h=>⟨cs,h,rfl,fun _ _=>rfl,fun _ j u hu=>by simp at hu⟩
 | v::r,o,w,cs,h=>by
  have h1:(w.setCell ⟨g,o,none⟩ v).heap[g]? = some (.cells (cs.setIfInBounds o v) e fr):=by simp [World.setCell,ss,h]
  obtain⟨cs',a1,a2,a3,a4⟩:=mq g e fr r (o+1) _ _ h1;refine⟨cs',a1,by rw [a2]; simp,fun j hj=>?_,fun hl j u hu=>?_⟩
  ·rw [a3 j (by simp only [g9] at hj; omega),Array.getElem?_setIfInBounds,if_neg (by simp only [g9] at hj; omega)]
  ·simp only [g9] at hl;cases j with
   | zero =>
    simp only [Br,cE] at hu;subst hu;rw [qC,a3 o (by omega),Array.getElem?_setIfInBounds,if_pos rfl,if_pos (by omega)]
   | succ j =>
    simp only [yV] at hu;have:=a4 (by simp; omega) j u hu;rwa [show o+(j+1)=o+1+j by omega]
theorem qY (g:Nat):∀ (vs:ba) (o:Nat) (w:World) (k:Nat),k≠g→(w.setCells g o vs).heap[k]? = w.heap[k]?
 | [],_,_,_,_=>rfl
 | v::r,o,w,k,h=>by
  show ((w.setCell ⟨g,o,none⟩ v).setCells g (o+1) r).heap[k]? = _;rw [qY g r (o+1) _ k h]; exact Below.heap_setCell w _ v k h
theorem pZ (g:Nat):∀ (vs:ba) (o:Nat) (w:World),(w.setCells g o vs).heap.size=w.heap.size
 | [],_,_=>rfl
 | v::r,o,w=>by
  show ((w.setCell ⟨g,o,none⟩ v).setCells g (o+1) r).heap.size=_;rw [pZ g r (o+1) _]; simp [World.setCell]
theorem gq (g:Nat):∀ (vs:ba) (o:Nat) (w:World),(w.setCells g o vs).os=w.os∧(w.setCells g o vs).tape=w.tape∧(w.setCells g o vs).output=w.output
 | [],_,_=>⟨rfl,rfl,rfl⟩
 | v::r,o,w=>gq g r (o+1) (w.setCell ⟨g,o,none⟩ v)
theorem xm (w:World) (g o:Nat) (vs:ba):w.grownBy (w.setCells g o vs) (some g) :=
 ⟨(gq g vs o w).1,(gq g vs o w).2.1,(gq g vs o w).2.2,by rw [pZ]; exact cM _,fun k _ hk=>qY g vs o w k (fun e=>hk (by rw [e]))⟩
section
variable {w w':World} {B B':Nat} {e:TypeId} {size:Nat} {v:Value} {xs:ba}
theorem lN.nil_ (w:World) (B:Nat) (e:TypeId) (size:Nat):lN w B e size (.slice none 0 0) []:=.inl ⟨rfl,rfl⟩
theorem lN.made (w:World) (B:Nat) (e:TypeId) (size:Nat) (cs:Array Value) (cap:Nat) (hB:B≤w.heap.size) (hs:cap*size≤cs.size) (hc:cap≤maxLen):lN (w.alloc (.cells cs e)) B e size (.slice (some ⟨w.heap.size,0,none⟩) 0 cap) [] :=
 .inr ⟨w.heap.size,0,0,cap,cs,rfl,by simp,hB,.of (heap_alloc_new w _),ez _,hc,by omega,fun j u hu=>by simp at hu⟩
theorem lN.lit (w:World) (B:Nat) (e:TypeId) (size:Nat) (cs:Array Value) (n:Nat) (hB:B≤w.heap.size) (hs:cs.size=n*size) (hc:n≤maxLen):lN (w.alloc (.cells cs e)) B e size (.slice (some ⟨w.heap.size,0,none⟩) n n) cs.toList :=
 .inr ⟨w.heap.size,0,n,n,cs,rfl,by simpa using hs,hB,.of (heap_alloc_new w _),cM _,hc,by omega,fun j u hu=>by simpa using hu⟩
theorem lN.blk (h:lN w B e size v xs):∀ k,v.ownBlock=some k→B≤k∧k<w.heap.size∧∃ cs,yk w k cs e:=by
 intro k hk;rcases h with⟨rfl,_⟩|⟨g,off,n,cap,cs,rfl,_,hb,hg,_⟩
 ·simp [Value.ownBlock] at hk
 ·simp [Value.ownBlock] at hk;subst hk;exact⟨hb,hg.lt,cs,hg⟩
theorem lN.kept {row:Option Nat} (h:lN w B e size v xs) (hg:w.grownBy w' row) (hne:v.ownBlock=none∨v.ownBlock≠row):lN w' B e size v xs:=by
 rcases h with h | ⟨g,off,n,cap,cs,rfl,h1,hb,hgg,rest⟩
 ·exact .inl h
 ·refine .inr ⟨g,off,n,cap,cs,rfl,h1,hb,?_,rest⟩;exact hgg.eqb (hg.block g hgg.lt (by simpa [Value.ownBlock] using hne))
theorem lN.keep (h:lN w B e size v xs) (hk:∀ k,k<w.heap.size→w'.heap[k]? = w.heap[k]?):lN w' B e size v xs:=by
 rcases h with h | ⟨g,off,n,cap,cs,rfl,h1,hb,hgg,rest⟩
 ·exact .inl h
 ·refine .inr ⟨g,off,n,cap,cs,rfl,h1,hb,?_,rest⟩;exact hgg.eqb (hk g hgg.lt)
theorem lN.later (h:lN w B e size v xs) (hb:Below w.heap.size w w'):lN w' B e size v xs:=h.keep hb.block
theorem lN.alloc (h:lN w B e size v xs) (o:Obj):lN (w.alloc o) B e size v xs:=h.keep fun k hk=>Below.heap_alloc w o k hk
theorem lN.drew (h:lN w B e size v xs):lN w.drew B e size v xs:=h
theorem lN.drewN (h:lN w B e size v xs) (n:Nat):lN (w.drewN n) B e size v xs:=h
theorem lN.form (h:lN w B e size v xs) (hs:0<size):∃ A n c,v = .slice A n c∧xs.length=n*size∧n≤c∧c≤maxLen∧At w A xs:=by
 rcases h with⟨rfl,rfl⟩|⟨g,off,n,cap,cs,rfl,h1,hb,hg,hnc,hc,hsz,hcs⟩
 ·exact⟨none,0,0,rfl,by simp,cM _,ez _,.inl rfl⟩
 ·refine⟨_,n,cap,rfl,h1,hnc,hc,.inr ⟨g,off,rfl,fun j u hu=>?_⟩⟩;rw [hg.cell];exact hcs j u hu
theorem lN.below {a:World} (h:lN w B e size v xs) (hb:Below B a w) (hB:B≤w.heap.size) (hg:w.grownBy w' v.ownBlock):Below B a w':=hb.grown hg hB (fun k hk=>(h.blk k hk).1)
theorem lN.apart {B2:Nat} {e2:TypeId} {size2:Nat} {v2:Value} {xs2:ba} (h:lN w B e size v xs) (h2:lN w B2 e2 size2 v2 xs2) (hne:e≠e2):v.ownBlock=none∨v.ownBlock≠v2.ownBlock:=by
 cases hv:v.ownBlock with
 | none=>exact .inl rfl
 | some k =>
  right;intro hk;obtain⟨_,_,cs,hc⟩:=h.blk k hv;obtain⟨_,_,cs2,hc2⟩:=h2.blk k hk.symm;exact hne (hc.ty hc2)
end
theorem lN.sl {α:Type} {enc:α→ba} {size:Nat} {w:World} {B:Nat} {e:TypeId} {v:Value} {l:List α} (he:∀ x,(enc x).length=size) (hs:0<size) (h:lN w B e size v (l.flatMap enc)) :
  Sl enc size w w.heap.size v l:=by
 rcases h with⟨rfl,h⟩|⟨g,off,n,cap,cs,rfl,h1,hb,hg,hnc,hc,hsz,hcs⟩
 ·have hl:=rU he l;rw [h] at hl;have:l=[]:=by
   cases l with
   | nil=>rfl
   | cons x r=>simp [iM] at hl; omega
  subst this;exact Sl.nil_ 0 none (ez _)
 ·rw [rU he] at h1;have hn:n=l.length:=(vQ hs h1).symm;subst hn;refine⟨_,cap,rfl,hnc,hc,.inr ⟨g,off,rfl,hg.lt,fun k x hx j u hu=>?_⟩⟩;have hj:j<size:=by rw [← he x]; exact (bD.1 hu).1
  rw [hg.cell,vL];exact hcs _ u (by rw [wQ he l k j x hx hj]; exact hu)
section
variable {P:Program}
theorem rG (w:World) (t ty e:TypeId) (i:TypeInfo) (ht:P.underlying t=some (.slice e)) (hi:P.info? e=some i) (A:Option Addr) (n cap c:Nat) (B:Option Addr) (hnc:n≤cap) :
  (Builtin.append_ #[t,t] ty #[.slice A n cap,.slice B 0 c]).run P w = .ok (.slice A n cap) w:=by
 cases A <;> cases B <;> simp [Builtin.append_,run_underlying ht,sizeOf,typeInfo,hi,Builtin.lenOf,Builtin.firstCells,hnc,storeCells,loadCells,loadCellsFrom]
theorem xl (w:World) (t ty e:TypeId) (size bytes:Nat) (E:HS P t e size bytes) (B:Nat) (v:Value) (xs:ba) (hown:lN w B e size v xs)
  (A:Option Addr) (m c:Nat) (news:ba) (hl:news.length=m*size) (hat:At w A news) (h1:∀ u∈news,u.oneCell'=true)
  (h63:xs.length+news.length≤maxLen) (hbytes:(xs.length+news.length)*bytes≤140737488355328) (hbase:B≤w.heap.size) :
  ∃ v' w',(Builtin.append_ #[t,t] ty #[v,.slice A m c]).run P w = .ok v' w'∧lN w' B e size v' (xs++news)∧w.grownBy w' v.ownBlock∧(v'.ownBlock=v.ownBlock∨v'.ownBlock=some w.heap.size):=by
 obtain⟨ht,⟨i,z,hi,hz,hsize,hby,hzs⟩,hpos⟩:=E;subst hsize hby;by_cases hm:m=0
 ·subst hm;have hn:news=[]:=xJ (by simpa using hl);subst hn;rcases hown with⟨rfl,rfl⟩|⟨g,off,n,cap,cs,rfl,a1,hb,hg,hnc,hc,hsz,hcs⟩
  ·exact⟨_,w,rG w t ty e i ht hi none 0 0 c A (cM _),.inl ⟨rfl,rfl⟩,World.grownBy.refl w _,.inl rfl⟩
  ·exact⟨_,w,rG w t ty e i ht hi _ n cap c A hnc,.inr ⟨g,off,n,cap,cs,rfl,by simpa using a1,hb,hg,hnc,hc,hsz,by simpa using hcs⟩,World.grownBy.refl w _,.inl rfl⟩
 ·have hne:news≠[]:=by rintro rfl; rw [rI] at hl; rcases Nat.mul_eq_zero.1 hl.symm with h | h <;> omega
  obtain⟨sb,soff,rfl,hcell⟩:∃ b off,A=some ⟨b,off,none⟩∧∀ j u,news[j]? = some u→w.cell? ⟨b,off+j,none⟩=some u:=by
   rcases hat with h | h
   ·exact absurd h hne
   ·exact h
  have hcell':∀ j u,news[j]? = some u→w.cell? ((⟨sb,soff,none⟩:Addr).add j)=some u:=fun j u hu=>by rw [Addr.add_lit]; exact hcell j u hu
  have hmn:m≤news.length:=by rw [hl]; exact Nat.le_mul_of_pos_right _ hpos
  have grown:∀ (old n:Nat),old<n+m→xs.length=n*i.size→n+m≤xs.length+news.length →
    lN (w.drew.alloc (.cells (xs.toArray++news.toArray++Builtin.zeroCells z.cells (grownCap w (n+m) old e-(n+m))) e)) B e i.size
     (.slice (some ⟨w.heap.size,0,none⟩) (n+m) (grownCap w (n+m) old e)) (xs++news):=by
   intro old n ho hx hle;have hge:=grownCap_ge w (n+m) old e;have hcm:grownCap w (n+m) old e≤maxLen:=grownCap_le_maxLen w (n+m) old e (by omega);refine .inr ⟨w.heap.size,0,n+m,_,_,rfl,by rw [cW,hx,hl,iM],hbase,.of (heap_alloc_new w.drew _),hge,hcm,?_,?_⟩
   ·simp only [Array.size_append,List.size_toArray,size_zeroCells,hzs,hx,hl,← iM];rw [sx];exact mD _ (by omega)
   ·intro j u hu;rw [sx,Array.getElem?_append_left (by
     have:=(bD.1 hu).1;simpa using this)]
    simpa using hu
  rcases hown with⟨rfl,rfl⟩|⟨g,off,n,cap,cs,rfl,a1,hb,hg,hnc,hc,hsz,hcs⟩
  ·have hr:=run_append_nil (P:=P) w t ty e i z ht hi hz ⟨sb,soff,none⟩ m c news hl hcell' (by omega) (by simp only [maxLen] at h63; simp at h63; omega)
    (by
     have h2:m*i.bytes≤news.length*i.bytes:=mD _ hmn;simp only [rI,sx] at hbytes;omega)
   have hgr:=grown 0 0 (by omega) (by simp) (by simp; omega);simp only [sx,Bu,Array.empty_append] at hgr;exact⟨_,_,hr,hgr,⟨rfl,rfl,rfl,by simp,fun k hk _=>Below.heap_alloc w.drew _ k hk⟩,.inr rfl⟩
  ·have hnx:n≤xs.length:=by rw [a1]; exact Nat.le_mul_of_pos_right _ hpos
   by_cases hroom:n+m≤cap
   ·have hfit:off+n*i.size+news.length≤cs.size:=by
     have:(n+m)*i.size≤cap*i.size:=mD _ hroom;rw [hl]; rw [iM] at this; omega
    have hr:=run_append_room_cells (P:=P) w t ty e i ht hi g off n cap ⟨sb,soff,none⟩ m c news hl hcell' h1 hroom
     (fun j hj=>by rw [hg.cell,sB (by omega)]; rfl)
     (fun j hj=>hg.free (by omega))
    obtain⟨fz,hg0,hfz⟩:=id hg;obtain⟨cs',c1,c2,c3,c4⟩:=mq g e fz news (off+n*i.size) w cs hg0;refine⟨_,_,hr,.inr ⟨g,off,n+m,cap,cs',rfl,by rw [cW,a1,hl,iM],hb,⟨fz,c1,by rw [c2]; exact hfz⟩,hroom,hc,by rw [c2]; exact hsz,fun j u hu=>?_⟩,xm w g _ news,.inl rfl⟩;by_cases hj:j<xs.length
    ·rw [og hj] at hu;rw [c3 _ (by omega)];exact hcs j u hu
    ·rw [qA (by omega)] at hu;have:=c4 hfit (j-xs.length) u hu;rwa [show off+n*i.size+(j-xs.length)=off+j by omega] at this
   ·have hr:=run_append_grow (P:=P) w t ty e i z ht hi hz ⟨g,off,none⟩ n cap xs a1 (fun j u hu=>by rw [Addr.add_lit,hg.cell]; exact hcs j u hu)
     ⟨sb,soff,none⟩ m c news hl hcell' (by omega) (by simp only [maxLen] at h63; omega)
     (growslice_fits (by omega) (by
      have h2:(n+m)*i.bytes≤(xs.length+news.length)*i.bytes:=mD _ (by omega);omega))
    have hgr:=grown cap n (by omega) a1 (by omega);exact⟨_,_,hr,hgr,⟨rfl,rfl,rfl,by simp,fun k hk _=>Below.heap_alloc w.drew _ k hk⟩,.inr rfl⟩
theorem yi (w:World) {o:Oper} {a:Act} {K:Act→World→Prop} {Q:Exit→Act→World→Prop} (s x:Operand) (t:TypeId)
  (ho:o.op = .call { callee:=.builtin .append,args:=#[s,x],argTypes:=#[t,t] })
  (e:TypeId) (size bytes:Nat) (E:HS P t e size bytes) (B:Nat) (v:Value) (xs:ba) (hs:a.eval s=v) (hown:lN w B e size v xs)
  (A:Option Addr) (m c:Nat) (news:ba) (hx:a.eval x = .slice A m c) (hl:news.length=m*size) (hat:At w A news) (h1:∀ u∈news,u.oneCell'=true)
  (h63:xs.length+news.length≤maxLen) (hbytes:(xs.length+news.length)*bytes≤140737488355328) (hbase:B≤w.heap.size)
  (h:∀ v' w',lN w' B e size v' (xs++news)→w.grownBy w' v.ownBlock→(v'.ownBlock=v.ownBlock∨v'.ownBlock=some w.heap.size)→K (a.put o.dst v') w'):o.wp P a w K Q:=by
 obtain⟨v',w',hrun,h2,h3,h4⟩:=xl (P:=P) w t o.type e size bytes E B v xs hown A m c news hl hat h1 h63 hbytes hbase;unfold Oper.wp execOp;simp only [ho,resolve,invoke,builtin,Sem.run_bind,Sem.run_pure,Result.andThen_ok,List.map_toArray,uL,xA,hs,hx,hrun];exact h v' w' h2 h3 h4
end
def La (w:World):Type:={ w':World // Below w.heap.size w w' }
instance La.some_ (w:World):Nonempty (La w):=⟨⟨w,Below.refl _ _⟩⟩
def La.w {w:World} (x:La w):World:=x.1
theorem La.below {w:World} (x:La w):Below w.heap.size w x.w:=x.2
theorem La.cell {w:World} (x:La w) {p:Addr} {v:Value} (h:w.cell? p=some v):x.w.cell? p=some v:=(x.below.cell (World.block_lt_of_cell? w p h)).trans h
theorem La.sl {α:Type} {enc:α→ba} {size:Nat} {w:World} {v:Value} {xs:List α} (x:La w) (h:Sl enc size w w.heap.size v xs):Sl enc size x.w x.w.heap.size v xs:=h.later x.below
theorem La.call {P:Program} {f:FuncId} {args:Array Value} {w:World} {x:La w} {v:Value}
  (h:Calls P f args x.w fun e w''=>e = .returned v∧Below x.w.heap.size x.w w''):Calls P f args x.w fun e w''=>e = .returned v∧∃ y:La w,w''=y.w :=
 h.mono fun _ w'' ⟨he,hb⟩=>⟨he,⟨w'',BH x.below hb⟩,rfl⟩
theorem La.same {P:Program} {f:FuncId} {args:Array Value} {w:World} {x:La w} {v:Value}
  (h:Calls P f args x.w fun e w''=>e = .returned v∧x.w=w''):Calls P f args x.w fun e w''=>e = .returned v∧∃ y:La w,w''=y.w :=
 h.mono fun _ _ ⟨he,hb⟩=>⟨he,x,hb.symm⟩
end
section
open Go.RowKit
structure Kt (T:Nat→Prop) (w w':World):Prop where
 os:w'.os=w.os
 tape:w'.tape=w.tape
 output:w'.output=w.output
 size:w.heap.size≤w'.heap.size
 block:∀ k,k<w.heap.size→¬ T k→w'.heap[k]? = w.heap[k]?
def No:Nat→Prop:=fun _=>False
theorem aj (T:Nat→Prop) (w:World):Kt T w w:=⟨rfl,rfl,rfl,cM _,fun _ _ _=>rfl⟩
theorem Kt.trans {T:Nat→Prop} {a b c:World} (h:Kt T a b) (k:Kt T b c):Kt T a c :=
 ⟨k.os.trans h.os,k.tape.trans h.tape,k.output.trans h.output,cH h.size k.size,fun i hi hn=>(k.block i (xF hi h.size) hn).trans (h.block i hi hn)⟩
theorem Kt.mono {T T':Nat→Prop} {w w':World} (h:Kt T w w') (hT:∀ k,T k→T' k):Kt T' w w':=⟨h.os,h.tape,h.output,h.size,fun k hk hn=>h.block k hk (fun ht=>hn (hT k ht))⟩
theorem Kt.no {T:Nat→Prop} {w w':World} (h:Kt No w w'):Kt T w w':=h.mono fun _ h=>h.elim
theorem Kt.step {M T:Nat→Prop} {a b c:World} (h:Kt M a b) (k:Kt T b c) (hT:∀ k,T k→M k∨a.heap.size≤k):Kt M a c :=
 ⟨k.os.trans h.os,k.tape.trans h.tape,k.output.trans h.output,cH h.size k.size,fun i hi hn=>(k.block i (xF hi h.size) (fun ht=>by rcases hT i ht with h1 | h1; exact hn h1; omega)).trans (h.block i hi hn)⟩
theorem Kt.below {w w':World} (h:Kt No w w'):Below w.heap.size w w':=⟨h.os,h.tape,h.output,h.size,fun k hk=>h.block k hk (fun h=>h)⟩
theorem Kt.ofBelow {w w':World} (h:Below w.heap.size w w'):Kt No w w':=⟨h.os,h.tape,h.output,h.size,fun k hk _=>h.block k hk⟩
theorem Kt.drew (w:World):Kt No w w.drew:=⟨rfl,rfl,rfl,cM _,fun _ _ _=>rfl⟩
theorem Kt.drewN (w:World) (n:Nat):Kt No w (w.drewN n):=⟨rfl,rfl,rfl,cM _,fun _ _ _=>rfl⟩
theorem Kt.alloc (w:World) (o:Obj):Kt No w (w.alloc o):=⟨rfl,rfl,rfl,by simp,fun k hk _=>Below.heap_alloc w o k hk⟩
theorem Kt.setCell (w:World) (p:Addr) (v:Value):Kt (fun k=>k=p.block) w (w.setCell p v) :=
 ⟨rfl,rfl,rfl,by simp [World.setCell],fun k _ hn=>Below.heap_setCell w p v k hn⟩
theorem Kt.setCells (w:World) (g o:Nat) (vs:ba):Kt (fun k=>k=g) w (w.setCells g o vs) :=
 ⟨(gq g vs o w).1,(gq g vs o w).2.1,(gq g vs o w).2.2,by rw [pZ]; exact cM _,fun k _ hn=>qY g vs o w k hn⟩
theorem Kt.grown {w w':World} {row:Option Nat} (h:w.grownBy w' row):Kt (fun k=>row=some k) w w' :=
 ⟨h.os,h.tape,h.output,h.size,fun k hk hn=>h.block k hk (fun e=>hn e.symm)⟩
theorem Kt.cell {T:Nat→Prop} {w w':World} (h:Kt T w w') {p:Addr} (hl:p.block<w.heap.size) (hn:¬ T p.block):w'.cell? p=w.cell? p:=World.cell?_of_block (w:=w) (h.block _ hl hn)
def Nw (T T':Nat→Prop) (w:World):Prop:=∀ k,T' k→T k∨w.heap.size≤k
theorem Nw.refl (T:Nat→Prop) (w:World):Nw T T w:=fun _ h=>.inl h
structure bG where
 p:(Nat→Prop)→World→Prop
 keep:∀ {T T':Nat→Prop} {w w':World},p T w→Kt T w w'→Nw T T' w→p T' w'
structure aR (α:Type) where
 size:Nat
 rel:(Nat→Prop)→World→ba→α→Prop
 len:∀ {T w cs x},rel T w cs x→cs.length=size
 one:∀ {T w cs x},rel T w cs x→∀ u∈cs,u.oneCell'=true
 keep:∀ {T T':Nat→Prop} {w w':World} {cs x},rel T w cs x→Kt T w w'→Nw T T' w→rel T' w' cs x
def lO (T:Nat→Prop) (w:World) (b o:Nat) (cs:ba):Prop:=¬ T b∧b<w.heap.size∧∀ j u,cs[j]? = some u→w.cell? ⟨b,o+j,none⟩=some u
theorem lO.keep {T T':Nat→Prop} {w w':World} {b o:Nat} {cs:ba} (h:lO T w b o cs) (k:Kt T w w') (hn:Nw T T' w):lO T' w' b o cs :=
 ⟨fun ht=>by rcases hn b ht with h1 | h1; exact h.1 h1; have:=h.2.1; omega,xF h.2.1 k.size,fun j u hu=>(k.cell (p:=⟨b,o+j,none⟩) h.2.1 h.1).trans (h.2.2 j u hu)⟩
def ji (b o:Nat) (cs:ba):bG:=⟨fun T w=>lO T w b o cs,fun h k n=>h.keep k n⟩
theorem lO.sub {T:Nat→Prop} {w:World} {b o:Nat} {cs ds:ba} (k:Nat) (h:lO T w b o cs) (hd:∀ j u,ds[j]? = some u→cs[k+j]? = some u):lO T w b (o+k) ds :=
 ⟨h.1,h.2.1,fun j u hu=>by have:=h.2.2 (k+j) u (hd j u hu); rwa [← vL] at this⟩
def aC {α:Type} (R:aR α) (T:Nat→Prop) (w:World) (v:Value) (xs:List α):Prop :=
 ∃ A c,v = .slice A xs.length c∧xs.length≤c∧c≤maxLen ∧
  (xs=[]∨∃ b off,A=some ⟨b,off,none⟩∧∀ k x,xs[k]? = some x→∃ cs,R.rel T w cs x∧lO T w b (off+k*R.size) cs)
theorem aC.keep {α:Type} {R:aR α} {T T':Nat→Prop} {w w':World} {v:Value} {xs:List α} (h:aC R T w v xs) (k:Kt T w w') (hn:Nw T T' w):aC R T' w' v xs:=by
 obtain⟨A,c,e,h1,h2,h3⟩:=h;refine⟨A,c,e,h1,h2,?_⟩;rcases h3 with h3 | ⟨b,off,e2,hc⟩
 ·exact .inl h3
 ·refine .inr ⟨b,off,e2,fun i x hx=>?_⟩;obtain⟨cs,ha,hb⟩:=hc i x hx;exact⟨cs,R.keep ha k hn,hb.keep k hn⟩
theorem aC.sub {α:Type} {R:aR α} {T T':Nat→Prop} {w:World} {v:Value} {xs:List α} (h:aC R T w v xs) (hn:Nw T T' w):aC R T' w v xs:=h.keep (aj _ _) hn
theorem aC.nil_ {α:Type} (R:aR α) (T:Nat→Prop) (w:World):aC R T w (.slice none 0 0) []:=⟨none,0,rfl,cM _,ez _,.inl rfl⟩
theorem aC.one {α:Type} {R:aR α} {T:Nat→Prop} {w:World} {v:Value} {xs:List α} (h:aC R T w v xs):v.oneCell'=true:=by obtain⟨A,c,rfl,_⟩:=h; rfl
def aL {α:Type} (R:aR α) (v:Value) (xs:List α):bG:=⟨fun T w=>aC R T w v xs,fun h k n=>h.keep k n⟩
theorem aC.len {α:Type} {R:aR α} {T:Nat→Prop} {w:World} {v:Value} {xs:List α} (h:aC R T w v xs):∃ A c,v = .slice A xs.length c∧xs.length≤c∧c≤maxLen:=by obtain⟨A,c,e,h1,h2,_⟩:=h; exact⟨A,c,e,h1,h2⟩
def bk {α:Type} (xs:List α) (i:Int):Option α:=if 0≤i then xs[i.toNat]? else none
theorem eU {α:Type} {xs:List α} {i:Int} {x:α} (h:bk xs i=some x):0≤i∧i<xs.length∧xs[i.toNat]? = some x:=by
 unfold bk at h;split at h
 ·have:=(bD.1 h).1;exact⟨by omega,by omega,h⟩
 ·cases h
def aR.slice {α:Type} (R:aR α):aR (List α) where
 size:=1
 rel:=fun T w cs xs=>∃ v,cs=[v]∧aC R T w v xs
 len:=by rintro _ _ _ _ ⟨v,rfl,_⟩; rfl
 one:=by rintro _ _ _ _ ⟨v,rfl,h⟩ u hu; simp only [dQ,mA,or_false] at hu; subst hu; exact h.one
 keep:=by rintro _ _ _ _ _ _ ⟨v,rfl,h⟩ k n; exact⟨v,rfl,h.keep k n⟩
def aR.int (k:IntKind):aR Int where
 size:=1
 rel:=fun _ _ cs x=>cs=[.int k x]
 len:=by rintro _ _ _ _ rfl; rfl
 one:=by rintro _ _ _ _ rfl u hu; simp only [dQ,mA,or_false] at hu; subst hu; rfl
 keep:=fun h _ _=>h
def aR.bool:aR Bool where
 size:=1
 rel:=fun _ _ cs x=>cs=[.bool x]
 len:=by rintro _ _ _ _ rfl; rfl
 one:=by rintro _ _ _ _ rfl u hu; simp only [dQ,mA,or_false] at hu; subst hu; rfl
 keep:=fun h _ _=>h
def aR.str:aR ByteArray where
 size:=1
 rel:=fun _ _ cs x=>cs=[.string x]
 len:=by rintro _ _ _ _ rfl; rfl
 one:=by rintro _ _ _ _ rfl u hu; simp only [dQ,mA,or_false] at hu; subst hu; rfl
 keep:=fun h _ _=>h
def aR.prod {α β:Type} (R:aR α) (S:aR β):aR (α×β) where
 size:=R.size+S.size
 rel:=fun T w cs x=>∃ c d,cs=c++d∧R.rel T w c x.1∧S.rel T w d x.2
 len:=by rintro _ _ _ _ ⟨c,d,rfl,h1,h2⟩; rw [cW,R.len h1,S.len h2]
 one:=by rintro _ _ _ _ ⟨c,d,rfl,h1,h2⟩ u hu; rcases cg.1 hu with h | h; exact R.one h1 u h; exact S.one h2 u h
 keep:=by rintro _ _ _ _ _ _ ⟨c,d,rfl,h1,h2⟩ k n; exact⟨c,d,rfl,R.keep h1 k n,S.keep h2 k n⟩
def az {α:Type} (R:aR α) (T:Nat→Prop) (w:World) (cl:ba) (xs:List α):Prop:=cl.length=xs.length*R.size∧∀ k x,xs[k]? = some x→∃ cs,R.rel T w cs x∧∀ j u,cs[j]? = some u→cl[k*R.size+j]? = some u
theorem az.keep {α:Type} {R:aR α} {T T':Nat→Prop} {w w':World} {cl:ba} {xs:List α} (h:az R T w cl xs) (k:Kt T w w') (hn:Nw T T' w):az R T' w' cl xs :=
 ⟨h.1,fun i x hx=>by obtain⟨cs,h1,h2⟩:=h.2 i x hx; exact⟨cs,R.keep h1 k hn,h2⟩⟩
def an {α:Type} (R:aR α) (cl:ba) (xs:List α):bG:=⟨fun T w=>az R T w cl xs,fun h k n=>h.keep k n⟩
theorem az.nil_ {α:Type} (R:aR α) (T:Nat→Prop) (w:World):az R T w [] []:=⟨by simp,fun k x hx=>by simp at hx⟩
theorem az.append {α:Type} {R:aR α} {T:Nat→Prop} {w:World} {cl dl:ba} {xs ys:List α} (h:az R T w cl xs) (k:az R T w dl ys):az R T w (cl++dl) (xs++ys):=by
 refine⟨by rw [cW,cW,h.1,k.1,iM],fun i x hx=>?_⟩;by_cases hi:i<xs.length
 ·rw [og hi] at hx;obtain⟨cs,h1,h2⟩:=h.2 i x hx;refine⟨cs,h1,fun j u hu=>?_⟩;have:=h2 j u hu;rw [og (bD.1 this).1]; exact this
 ·rw [qA (by omega)] at hx;obtain⟨cs,h1,h2⟩:=k.2 _ x hx;refine⟨cs,h1,fun j u hu=>?_⟩;have:=h2 j u hu;have he:xs.length*R.size+((i-xs.length)*R.size+j)=i*R.size+j:=by
   rw [← vL,← iM]; congr 2; omega
  rw [qA (by rw [h.1,← he]; omega),h.1,← he,Nat.add_sub_cancel_left];exact this
theorem az.one_ {α:Type} {R:aR α} {T:Nat→Prop} {w:World} {cs:ba} {x:α} (h:R.rel T w cs x):az R T w cs [x]:=by
 refine⟨by rw [R.len h]; simp,fun k y hy=>?_⟩;cases k with
 | zero=>simp only [Br,cE] at hy; subst hy; exact⟨cs,h,fun j u hu=>by rw [Nat.zero_mul,sx]; exact hu⟩
 | succ k=>simp at hy
theorem az.cell {α:Type} {R:aR α} {T:Nat→Prop} {w:World} {cl:ba} {xs:List α} (hs:0<R.size) (h:az R T w cl xs):∀ u∈cl,u.oneCell'=true:=by
 intro u hu;obtain⟨i,hi,e⟩:=CX hu;have hk:i / R.size<xs.length:=by rw [Nat.div_lt_iff_lt_mul hs,← h.1]; exact hi
 obtain⟨cs,h1,h2⟩:=h.2 _ _ (bC hk);have hl:=R.len h1;have hj:i % R.size<cs.length:=by rw [hl]; exact Nat.mod_lt _ hs
 have:=h2 _ _ (bC hj);rw [Nat.div_add_mod' i R.size,bC hi,e] at this;injection this with this;rw [this];exact R.one h1 _ (iL hj)
theorem lN.rd {α:Type} {R:aR α} {T:Nat→Prop} {w:World} {B:Nat} {e:TypeId} {v:Value} {cl:ba} {xs:List α} (hs:0<R.size) (h:lN w B e R.size v cl) (hr:az R T w cl xs) (hT:∀ k,v.ownBlock=some k→¬ T k):aC R T w v xs:=by
 rcases h with⟨rfl,rfl⟩|⟨g,off,n,cap,cs,rfl,h1,hb,hg,hnc,hc,hsz,hcs⟩
 ·have hl:=hr.1;have:xs=[]:=by
   cases xs with
   | nil=>rfl
   | cons x r=>simp [iM] at hl; omega
  subst this;exact aC.nil_ _ _ _
 ·have hn:n=xs.length:=vQ hs (h1.symm.trans hr.1);subst hn;refine⟨_,cap,rfl,hnc,hc,.inr ⟨g,off,rfl,fun k x hx=>?_⟩⟩;obtain⟨ds,h2,h3⟩:=hr.2 k x hx;refine⟨ds,h2,hT g rfl,hg.lt,fun j u hu=>?_⟩;rw [hg.cell,vL];exact hcs _ u (h3 j u hu)
theorem aC.rows {α:Type} {R:aR α} {T:Nat→Prop} {w:World} {A:Option Addr} {n c:Nat} {xs:List α} (hs:0<R.size) (h:aC R T w (.slice A n c) xs):n=xs.length∧∃ cl,At w A cl∧az R T w cl xs:=by
 obtain⟨A',c',e,h1,h2,h3⟩:=h;injection e with e1 e2 e3;subst e1 e2 e3;refine⟨rfl,?_⟩;rcases h3 with rfl | ⟨b,off,rfl,hc⟩
 ·exact⟨[],.inl rfl,az.nil_ _ _ _⟩
 ·have key:∀ (ys:List α) (o:Nat),(∀ k x,ys[k]? = some x→∃ cs,R.rel T w cs x∧lO T w b (o+k*R.size) cs)→∃ cl:ba,(∀ j u,cl[j]? = some u→w.cell? ⟨b,o+j,none⟩=some u)∧az R T w cl ys:=by
   intro ys
   induction ys with
   | nil=>intro o _; exact⟨[],fun j u hu=>by simp at hu,az.nil_ _ _ _⟩
   | cons y r ih =>
    intro o ho;obtain⟨cs,g1,g2⟩:=ho 0 y rfl;obtain⟨cl,g3,g4⟩:=ih (o+R.size) (fun k x hx=>by
     obtain⟨ds,g5,g6⟩:=ho (k+1) x (by simpa using hx);exact⟨ds,g5,by rwa [show o+(k+1)*R.size=o+R.size+k*R.size by rw [iM]; omega] at g6⟩)
    refine⟨cs++cl,fun j u hu=>?_,(az.one_ g1).append g4⟩;have hl:=R.len g1;by_cases hj:j<cs.length
    ·rw [og hj] at hu;have:=g2.2.2 j u hu;rwa [Nat.zero_mul,qC] at this
    ·rw [qA (by omega)] at hu;have:=g3 _ u hu;rwa [show o+R.size+(j-cs.length)=o+j by omega] at this
  obtain⟨cl,g1,g2⟩:=key xs off hc;exact⟨cl,.inr ⟨b,off,rfl,g1⟩,g2⟩
theorem aC.get {α:Type} {R:aR α} {T:Nat→Prop} {w:World} {v:Value} {xs:List α} (h:aC R T w v xs) {i:Int} {x:α} (hx:bk xs i=some x) :
  ∃ b o c,v = .slice (some ⟨b,o,none⟩) xs.length c∧xs.length≤c∧∃ cs,R.rel T w cs x∧lO T w b (o+i.toNat*R.size) cs:=by
 obtain⟨hi0,hi1,hi2⟩:=eU hx;obtain⟨A,c,rfl,h1,h2,h3⟩:=h;rcases h3 with h3 | ⟨b,off,rfl,hc⟩
 ·subst h3; simp at hi1; omega
 ·exact⟨b,off,c,rfl,h1,hc _ _ hi2⟩
end
section
open Go.RowKit
theorem IP {a b:Nat} (h:¬ a=b):Nat.beq a b=false:=by
 cases hb:Nat.beq a b
 ·rfl
 ·exact absurd (xI hb) h
def lk:List (Nat×Value)→Nat→Option Value
 | [],_=>none
 | p::r,t=>cond (Nat.beq p.1 t) (some p.2) (lk r t)
structure rL where
 v:Value
 e:TypeId
 sz:Nat
 cl:ba
def rL.ok (w:World) (o:rL):Prop:=lN w 0 o.e o.sz o.v o.cl∧0<o.sz
inductive cc where
 | grp (inn:List rL)
 | box (b:Nat) (cs:ba) (t:TypeId)
 | own (v:Value) (e:TypeId) (sz:Nat) (cl:ba)
 | obj (b:Nat) (o:Obj)
def cc.dom:cc→Nat→Prop
 | .box b _ _=>fun k=>some b=some k
 | .own v _ _ _=>fun k=>v.ownBlock=some k
 | .obj b _=>fun k=>some b=some k
 | .grp inn=>fun k=>∃ o∈inn,o.v.ownBlock=some k
def cc.bare:cc→Bool
 | .own (.slice none _ _) _ _ _=>true
 | _=>false
def cc.ok (w:World):cc→Prop
 | .box b cs t=>w.heap[b]? = some (.cells cs.toArray t (0,0))
 | .own v e sz cl=>lN w 0 e sz v cl∧0<sz
 | .obj b o=>w.heap[b]? = some o
 | .grp inn=>(∀ o∈inn,o.ok w)∧inn.Pairwise fun r s=>∀ k,r.v.ownBlock=some k→s.v.ownBlock≠some k
theorem cc.bare_no {r:cc} (h:r.bare=true):∀ k,¬ r.dom k:=by
 intro k hk;unfold cc.bare at h;split at h
 ·cases hk
 ·cases h
theorem rL.lt {w:World} {o:rL} (h:o.ok w) {k:Nat} (hk:o.v.ownBlock=some k):k<w.heap.size:=(h.1.blk k hk).2.1
theorem rL.keep {w w':World} {o:rL} (h:o.ok w) (hk:∀ k,o.v.ownBlock=some k→w'.heap[k]? = w.heap[k]?):o.ok w':=by
 obtain⟨h1,h2⟩:=h;refine⟨?_,h2⟩;rcases h1 with h1 | ⟨g,off,n,cap,cs,q0,q1,q2,q3,rest⟩
 ·exact .inl h1
 ·exact .inr ⟨g,off,n,cap,cs,q0,q1,q2,q3.eqb (hk g (by rw [q0]; rfl)),rest⟩
def dT (T:Nat→Prop) (D:List cc):Nat→Prop:=fun k=>T k∨∃ r∈D,r.dom k
theorem cc.lt {w:World} {r:cc} (h:r.ok w):∀ k,r.dom k→k<w.heap.size:=by
 intro k hk;cases r with
 | box b cs t=>simp only [cc.dom,cE] at hk; subst hk; exact (sA.1 h).1
 | own v e sz cl=>exact (h.1.blk k hk).2.1
 | obj b o=>simp only [cc.dom,cE] at hk; subst hk; exact (sA.1 h).1
 | grp inn=>obtain⟨o,ho,hk⟩:=hk; exact rL.lt (h.1 o ho) hk
theorem cc.keep {w w':World} {r:cc} (h:r.ok w) (hk:∀ k,r.dom k→w'.heap[k]? = w.heap[k]?):r.ok w':=by
 cases r with
 | box b cs t=>exact (hk b rfl).trans h
 | obj b o=>exact (hk b rfl).trans h
 | grp inn=>exact⟨fun o ho=>rL.keep (h.1 o ho) fun k hk2=>hk k ⟨o,ho,hk2⟩,h.2⟩
 | own v e sz cl =>
  obtain⟨h1,h2⟩:=h;refine⟨?_,h2⟩;rcases h1 with h1 | ⟨g,off,n,cap,cs,rfl,q1,q2,q3,rest⟩
  ·exact .inl h1
  ·exact .inr ⟨g,off,n,cap,cs,rfl,q1,q2,q3.eqb (hk g rfl),rest⟩
structure St (W:World) (M T:Nat→Prop) (n:Nat) (G:List (Nat×Value)) (D:List cc) (F:List bG) (a:Act) (w:World):Prop where
 size:a.tmps.size=n
 defers:a.defers=[]
 slots:∀ t v,lk G t=some v→a.tmps[t]? = some v
 base:Kt M W w
 own:∀ r∈D,r.ok w
 free:∀ r∈D,∀ k,r.dom k→¬ T k∧(M k∨W.heap.size≤k)
 apart:D.Pairwise fun r s=>∀ k,r.dom k→¬ s.dom k
 facts:∀ f∈F,f.p (dT T D) w
 tlt:∀ k,T k→k<w.heap.size
section
variable {W:World} {M T:Nat→Prop} {n:Nat} {G G':List (Nat×Value)} {D D':List cc} {F F':List bG} {a:Act} {w w':World}
theorem St.dlt (h:St W M T n G D F a w):∀ k,dT T D k→k<w.heap.size:=by
 rintro k (hk | ⟨r,hr,hk⟩)
 ·exact h.tlt k hk
 ·exact cc.lt (h.own r hr) k hk
theorem St.put (h:St W M T n G D F a w) {d:Nat} (hd:Nat.blt d n=true) (v:Value):St W M T n ((d,v)::G) D F (a.put (some d) v) w:=by
 have hd:d<n:=oh hd;refine⟨by simpa [Act.put] using h.size,h.defers,fun t u hu=>?_,h.base,h.own,h.free,h.apart,h.facts,h.tlt⟩;simp only [lk] at hu;by_cases e:d=t
 ·subst e;rw [show Nat.beq d d=true from by simp] at hu;simp only [cond_true,cE] at hu;subst hu;simp [Act.put,h.size,hd]
 ·rw [IP e] at hu;have:=h.slots t u hu;simp only [Act.put];rw [Array.getElem?_setIfInBounds_ne e]; exact this
theorem St.fact (h:St W M T n G D F a w) (f:bG) (hf:f.p (dT T D) w):St W M T n G D (f::F) a w :=
 ⟨h.size,h.defers,h.slots,h.base,h.own,h.free,h.apart,fun g hg=>by rcases dQ.1 hg with rfl | hg; exact hf; exact h.facts g hg,h.tlt⟩
theorem St.get (h:St W M T n G D F a w) (i:Nat) {f:bG} (hi:F[i]? = some f):f.p (dT T D) w:=h.facts f (aH hi)
theorem St.later (h:St W M T n G D F a w) (k:Kt No w w'):St W M T n G D F a w' :=
 ⟨h.size,h.defers,h.slots,h.base.step k (fun _ h=>h.elim),fun r hr=>cc.keep (h.own r hr) fun j hj=>k.block j (cc.lt (h.own r hr) j hj) (fun h=>h),h.free,h.apart,
  fun f hf=>f.keep (h.facts f hf) k.no (Nw.refl _ _),fun j hj=>xF (h.tlt j hj) k.size⟩
theorem Ct {T:Nat→Prop} {D:List cc} {r:cc} {k:Nat}:dT T (r::D) k↔dT T D k∨r.dom k:=by
 unfold dT;simp only [dQ,exists_eq_or_imp];constructor
 ·rintro (h | h | h)
  ·exact .inl (.inl h)
  ·exact .inr h
  ·exact .inl (.inr h)
 ·rintro ((h | h) | h)
  ·exact .inl h
  ·exact .inr (.inr h)
  ·exact .inr (.inl h)
theorem St.add (h:St W M T n G D F a w) (k:Kt No w w') (r:cc) (hr:r.ok w') (hn:∀ k,r.dom k→w.heap.size≤k):St W M T n G (r::D) F a w':=by
 have h':=h.later k;refine⟨h'.size,h'.defers,h'.slots,h'.base,?_,?_,?_,fun f hf=>f.keep (h.facts f hf) k.no (fun j hj=>?_),h'.tlt⟩
 ·intro s hs;rcases dQ.1 hs with rfl | hs
  ·exact hr
  ·exact h'.own s hs
 ·intro s hs j hj;rcases dQ.1 hs with rfl | hs
  ·have:=hn j hj;refine⟨fun ht=>?_,.inr ?_⟩
   ·have:=h.tlt j ht; omega
   ·have:=h.base.size; omega
  ·exact h'.free s hs j hj
 ·refine vt.2 ⟨fun s hs j hj hj2=>?_,h.apart⟩;have:=hn j hj;have:=cc.lt (h.own s hs) j hj2;omega
 ·rcases Ct.1 hj with h1 | h1
  ·exact .inl h1
  ·exact .inr (hn j h1)
theorem St.alloc (h:St W M T n G D F a w) (cs:ba) (t:TypeId):St W M T n G (.box w.heap.size cs t::D) F a (w.alloc (.cells cs.toArray t)) :=
 h.add (Kt.alloc _ _) _ (heap_alloc_new w _) (fun k hk=>by simp only [cc.dom,cE] at hk; omega)
theorem St.turn (h:St W M T n G D F a w) {i:Nat} {r r':cc} (hi:D[i]? = some r) (k:Kt (fun j=>r.dom j) w w') (hr:r'.ok w') (hd:∀ j,r'.dom j→r.dom j∨w.heap.size≤j) :
  St W M T n G (D.set i r') F a w':=by
 have hmem:=aH hi;have hlt:=(bD.1 hi).1;have hne:∀ j s,j≠i→D[j]? = some s→∀ q,s.dom q→¬ r.dom q:=by
  intro j s hj hs q hq hq2;have hjl:=(bD.1 hs).1;have e1:=(bD.1 hs).2;have e2:=(bD.1 hi).2;rcases xH hj with hji | hji
  ·have:=gw.1 h.apart j i hjl hlt hji q (by rw [e1]; exact hq);rw [e2] at this; exact this hq2
  ·have:=gw.1 h.apart i j hlt hjl hji q (by rw [e2]; exact hq2);rw [e1] at this; exact this hq
 have pr:∀ s,s∈D.set i r'→s=r'∨∃ j,j≠i∧D[j]? = some s:=by
  intro s hs;obtain⟨j,hj,e⟩:=CX hs;by_cases hji:i=j
  ·subst hji; rw [List.getElem_set_self] at e; exact .inl e.symm
  ·rw [xB hji] at e;exact .inr ⟨j,fun e=>hji e.symm,by rw [← e]; exact bC _⟩
 refine⟨h.size,h.defers,h.slots,h.base.step k (fun j hj=>(h.free r hmem j hj).2),?_,?_,?_,fun f hf=>f.keep (h.facts f hf) (k.mono fun j hj=>.inr ⟨r,hmem,hj⟩) (fun j hj=>?_),fun j hj=>xF (h.tlt j hj) k.size⟩
 ·intro s hs;rcases pr s hs with rfl | ⟨j,hj,hs⟩
  ·exact hr
  ·have ho:=h.own s (aH hs);exact cc.keep ho fun q hq=>k.block q (cc.lt ho q hq) (hne j s hj hs q hq)
 ·intro s hs q hq;rcases pr s hs with rfl | ⟨j,hj,hs⟩
  ·rcases hd q hq with h1 | h1
   ·exact h.free r hmem q h1
   ·refine⟨fun ht=>?_,.inr ?_⟩
    ·have:=h.tlt q ht; omega
    ·have:=h.base.size; omega
  ·exact h.free s (aH hs) q hq
 ·rw [gw];intro x y hx hy hxy q hq hq2;have hx':x<D.length:=by simpa using hx
  have hy':y<D.length:=by simpa using hy
  have old:∀ z (hz:z<D.length),D[z].dom q→q<w.heap.size:=fun z hz e=>cc.lt (h.own _ (iL hz)) q e;by_cases h1:i=x
  ·subst h1;rw [List.getElem_set_self] at hq;rw [xB (by omega)] at hq2;rcases hd q hq with h2 | h2
   ·exact hne y _ (by omega) (bC hy') q hq2 h2
   ·have:=old y hy' hq2; omega
  ·by_cases h2:i=y
   ·subst h2;rw [List.getElem_set_self] at hq2;rw [xB h1] at hq;rcases hd q hq2 with h3 | h3
    ·exact hne x _ (by omega) (bC hx') q hq h3
    ·have:=old x hx' hq; omega
   ·rw [xB h1] at hq;rw [xB h2] at hq2;exact gw.1 h.apart x y hx' hy' hxy q hq hq2
 ·rcases hj with hj | ⟨s,hs,hj⟩
  ·exact .inl (.inl hj)
  ·rcases pr s hs with rfl | ⟨z,hz,hs⟩
   ·rcases hd j hj with h1 | h1
    ·exact .inl (.inr ⟨r,hmem,h1⟩)
    ·exact .inr h1
   ·exact .inl (.inr ⟨s,aH hs,hj⟩)
theorem St.res (h:St W M T n G D F a w) {D':List cc} (hs:∀ r∈D',r∈D) (hp:D'.Pairwise fun r s=>∀ k,r.dom k→¬ s.dom k):St W M T n G D' F a w :=
 ⟨h.size,h.defers,h.slots,h.base,fun r hr=>h.own r (hs r hr),fun r hr=>h.free r (hs r hr),hp,fun f hf=>f.keep (h.facts f hf) (aj _ _) (fun k hk=>.inl (by
  rcases hk with hk | ⟨r,hr,hk⟩
  ·exact .inl hk
  ·exact .inr ⟨r,hs r hr,hk⟩)),h.tlt⟩
theorem St.drop (h:St W M T n G D F a w) (i:Nat):St W M T n G (D.eraseIdx i) F a w :=
 h.res (fun r hr=>Cf hr) (h.apart.sublist (List.eraseIdx_sublist _ _))
def He (G:List (Nat×Value)):List (Nat×Value)→Prop
 | []=>True
 | p::r=>lk G p.1=some p.2∧He G r
theorem He.lk_ {G:List (Nat×Value)}:∀ {G':List (Nat×Value)},He G G'→∀ t v,lk G' t=some v→lk G t=some v
 | [],_,t,v,hv=>by simp [lk] at hv
 | p::r,h,t,v,hv=>by
  simp only [lk] at hv;by_cases e:p.1=t
  ·subst e;rw [show Nat.beq p.1 p.1=true from by simp] at hv;simp only [cond_true,cE] at hv;subst hv; exact h.1
  ·rw [IP e] at hv;exact He.lk_ h.2 t v hv
theorem St.slot (h:St W M T n G D F a w) (hs:He G G'):St W M T n G' D F a w :=
 ⟨h.size,h.defers,fun t v hv=>h.slots t v (hs.lk_ t v hv),h.base,h.own,h.free,h.apart,h.facts,h.tlt⟩
theorem St.sel (h:St W M T n G D F a w) (hs:∀ f∈F',f∈F):St W M T n G D F' a w :=
 ⟨h.size,h.defers,h.slots,h.base,h.own,h.free,h.apart,fun f hf=>h.facts f (hs f hf),h.tlt⟩
theorem St.old (h:St W M T n G D F a w) {k:Nat} (hk:dT T D k):T k∨M k∨W.heap.size≤k:=by
 rcases hk with h1 | ⟨r,hr,h1⟩
 ·exact .inl h1
 ·exact .inr (h.free r hr k h1).2
theorem St.freeze {α:Type} {R:aR α} {v:Value} {e:TypeId} {cl:ba} {xs:List α} (h:St W M T n G D F a w) (i:Nat) (hi:D[i]? = some (.own v e R.size cl)) (j:Nat) (hj:F[j]? = some (an R cl xs)):St W M T n G (D.eraseIdx i) (aL R v xs::F) a w:=by
 have hlt:=(bD.1 hi).1;have hD:=(bD.1 hi).2;obtain⟨ho,hs⟩:=h.own _ (aH hi);have hr:az R (dT T D) w cl xs:=h.get j hj;have h2:=h.drop i;refine h2.fact _ ?_;refine lN.rd hs ho (hr.keep (aj _ _) (fun k hk=>.inl ?_)) (fun k hk hT=>?_)
 ·rcases hk with hk | ⟨r,hr,hk⟩
  ·exact .inl hk
  ·exact .inr ⟨r,Cf hr,hk⟩
 ·rcases hT with hT | ⟨s,hs,hT⟩
  ·exact (h.free _ (aH hi) k hk).1 hT
  ·obtain⟨z,hz⟩:=gZ.1 hs;rw [tQ] at hz;split at hz
   ·rename_i hzi;have hzl:=(bD.1 hz).1;have:=gw.1 h.apart z i hzl hlt hzi k (by rw [(bD.1 hz).2]; exact hT);rw [hD] at this; exact this hk
   ·rename_i hzi;have hzl:=(bD.1 hz).1;have:=gw.1 h.apart i (z+1) hlt hzl (by omega) k (by rw [hD]; exact hk);rw [(bD.1 hz).2] at this; exact this hT
end
theorem St.start (W:World) (M T:Nat→Prop) (n:Nat) (vs:ba) (hT:∀ k,T k→k<W.heap.size) (hn:vs.length≤n) (G:List (Nat×Value)) (hG:∀ t v,lk G t=some v→vs[t]? = some v) :
  St W M T n G [] [] { tmps:=vs.toArray++Array.replicate (n-vs.toArray.size) undef,defers:=[] } W:=by
 refine⟨by simp; omega,rfl,fun t v hv=>?_,aj _ _,fun r hr=>(by cases hr),fun r hr=>(by cases hr),vr,fun f hf=>(by cases hf),hT⟩;have h1:=hG t v hv;have h2:=(bD.1 h1).1;simp only [Array.getElem?_append,List.size_toArray,h2,if_true,List.getElem?_toArray];exact h1
def kD:Nat→ba→List (Nat×Value)
 | _,[]=>[]
 | k,v::r=>(k,v)::kD (k+1) r
theorem wm:∀ (vs:ba) (k t:Nat) (v:Value),lk (kD k vs) t=some v→k≤t∧vs[t-k]? = some v
 | [],k,t,v,h=>by simp [kD,lk] at h
 | u::r,k,t,v,h=>by
  simp only [kD,lk] at h;by_cases e:k=t
  ·subst e;rw [show Nat.beq k k=true from by simp] at h;simp only [cond_true,cE] at h;subst h; simp
  ·rw [IP e] at h;obtain⟨h1,h2⟩:=wm r (k+1) t v h;refine⟨by omega,?_⟩;rw [show t-k=(t-(k+1))+1 by omega,yV]; exact h2
def a7 (P:Program) (M:Nat→Prop) (f:FuncId) (args:ba) (w:World) (R:Value→World→Prop):Prop :=
 Calls P f args.toArray w fun e w'=>∃ v,e = .returned v∧Kt M w w'∧R v w'
theorem a7.mono {P:Program} {M:Nat→Prop} {f:FuncId} {args:ba} {w:World} {R R':Value→World→Prop} (h:a7 P M f args w R) (hR:∀ v w',R v w'→R' v w'):a7 P M f args w R' :=
 Calls.mono h fun e w' ⟨v,h1,h2,h3⟩=>⟨v,h1,h2,hR v w' h3⟩
def Jk (M:Nat→Prop) (W:World) (R:Value→World→Prop):Ending→World→Prop:=fun e w'=>∃ v,e = .returned v∧Kt M W w'∧R v w'
theorem enter {P:Program} {M:Nat→Prop} {f:FuncId} {fn:Func} {c:Code} {args:ba} {w:World} {R:Value→World→Prop} (hf:P.funcs[f]? = some fn) (hb:fn.body=some c)
  (T:Nat→Prop) (n:Nat) (hn:fn.ntmps=n) (hT:∀ k,T k→k<w.heap.size) (hl:Nat.ble args.length n=true)
  (h:∀ a,St w M T n (kD 0 args) [] [] a w→c.wp P (bodyPost P fn (Jk M w R)) a w):a7 P M f args w R:=by
 refine calls_of_wp hf hb (h _ ?_);subst hn;exact St.start w M T _ args hT (oh hl) _ fun t v hv=>by
  obtain⟨h1,h2⟩:=wm args 0 t v hv;simpa using h2
end
section
open Go.RowKit
variable {pos:String} {af:Array Edge} {g:Option (Nat×Bool)}
def ev (G:List (Nat×Value)):Operand→Option Value
 | .tmp t=>lk G t
 | .const v=>some v
 | .func f=>some (.func (.func f) #[] #[])
 | .global g=>some (.pointer (some ⟨g,0,none⟩))
def evs (G:List (Nat×Value)):List Operand→Option (ba)
 | []=>some []
 | x::r=>match ev G x with
  | some v=>match evs G r with
   | some vs=>some (v::vs)
   | none=>none
  | none=>none
def po (P:Program) (o:Oper) (a:Act) (w:World) (K:Act→World→Prop):Prop:=∀ (K':Act→World→Prop) (Q:Exit→Act→World→Prop),(∀ a w,K a w→K' a w)→o.wp P a w K' Q
def Ye (P:Program) (o:Oper) (a:Act) (E:Nat→Prop) (w:World) (v:Value):Prop:=∀ w',Kt E w w'→(execOp a.eval o).run P w' = .ok (.value v) w'
def mx (P:Program) (t:TypeId):Option (Bool×Nat) :=
 match P.underlying t,P.info? t with
 | some (.struct _),some i=>some (true,i.size)
 | some (.array _ _),some i=>some (true,i.size)
 | some _,some i=>some (false,i.size)
 | _,_=>none
def dX (P:Program) (s:TypeId) (f:Nat):Option Nat :=
 match P.underlying s with
 | some (.struct fs)=>match fs[f]? with
  | some d=>match P.info? d.type with
   | some i=>if i.size=0 then none else some d.offset
   | none=>none
  | none=>none
 | _=>none
section
variable {P:Program} {W:World} {M T E:Nat→Prop} {n:Nat} {G G':List (Nat×Value)} {D D':List cc} {F F':List bG} {a:Act} {w w':World} {K:Act→World→Prop}
theorem St.ev (h:St W M T n G D F a w) {x:Operand} {v:Value} (hx:ev G x=some v):a.eval x=v:=by
 cases x with
 | tmp t =>
  have:=h.slots t v hx;simp [Act.eval,FP,this]
 | const u=>simp only [Proofs.YtdcojaccpnabkaaGreatDoor.ev,cE] at hx; exact hx
 | func f=>simp only [Proofs.YtdcojaccpnabkaaGreatDoor.ev,cE] at hx; exact hx
 | global g=>simp only [Proofs.YtdcojaccpnabkaaGreatDoor.ev,cE] at hx; exact hx
theorem St.evs (h:St W M T n G D F a w):∀ {xs:List Operand} {vs:ba},evs G xs=some vs→xs.map a.eval=vs
 | [],vs,hx=>by simp only [Proofs.YtdcojaccpnabkaaGreatDoor.evs,cE] at hx; subst hx; rfl
 | x::r,vs,hx=>by
  simp only [Proofs.YtdcojaccpnabkaaGreatDoor.evs] at hx;cases h1:Proofs.YtdcojaccpnabkaaGreatDoor.ev G x with
  | none=>rw [h1] at hx; cases hx
  | some v =>
   cases h2:Proofs.YtdcojaccpnabkaaGreatDoor.evs G r with
   | none=>rw [h1,h2] at hx; cases hx
   | some us =>
    rw [h1,h2] at hx;simp only [cE] at hx;subst hx;rw [uL,h.ev h1,h.evs h2]
theorem wl {ops:Array Oper} {Q:Exit→Act→World→Prop} {rest:List Oper} {o:Oper} (hg:o.guard=none) (h:po P o a w (wpList P ops Q rest)):wpList P ops Q (o::rest) a w :=
 wpList_plain hg fun K hK=>h K Q hK
theorem m5 {ops:Array Oper} {o:Oper} {j t:Nat} {want c:Bool} (h:St W M T n G D F a w) (hg:o.guard=some (j,want)) (hj:(ops[j]?).bind (·.dst)=some t) (ht:lk G t=some (.bool c)):Region.wanted o (yielded ops a.tmps)=(c==want):=by
 have h1:=h.slots t _ ht;unfold Region.wanted yielded;rw [hg];simp only [hj,aD,h1];cases c <;> cases want <;> rfl
theorem wg {ops:Array Oper} {Q:Exit→Act→World→Prop} {rest:List Oper} {o:Oper} {j t:Nat} {want c:Bool} (hS:St W M T n G D F a w) (hg:o.guard=some (j,want)) (hj:(ops[j]?).bind (·.dst)=some t) (ht:lk G t=some (.bool c)) (hc:c=want) (h:po P o a w (wpList P ops Q rest)):wpList P ops Q (o::rest) a w :=
 wpList_step fun K hK=>by rw [if_pos (by rw [m5 hS hg hj ht,hc]; simp)]; exact h K Q hK
theorem wn {ops:Array Oper} {Q:Exit→Act→World→Prop} {rest:List Oper} {o:Oper} {j t d:Nat} {want c:Bool} (hS:St W M T n G D F a w) (hg:o.guard=some (j,want)) (hj:(ops[j]?).bind (·.dst)=some t) (ht:lk G t=some (.bool c)) (hc:c = !want) (hd:o.dst=some d) (hn:Nat.blt d n=true)
  (h:∀ a,St W M T n ((d,undef)::G) D F a w→wpList P ops Q rest a w):wpList P ops Q (o::rest) a w :=
 wpList_step fun K hK=>by rw [if_neg (by rw [m5 hS hg hj ht,hc]; cases want <;> simp)]; rw [hd]; exact hK _ _ (h _ (hS.put hn _))
theorem Nj {ops:Array Oper} {Q:Exit→Act→World→Prop} {rest:List Oper} {o:Oper} {j t d:Nat} {want:Bool} (hS:St W M T n G D F a w) (hg:o.guard=some (j,want)) (hj:(ops[j]?).bind (·.dst)=some t) (ht:lk G t=some undef) (hd:o.dst=some d) (hn:Nat.blt d n=true)
  (h:∀ a,St W M T n ((d,undef)::G) D F a w→wpList P ops Q rest a w):wpList P ops Q (o::rest) a w :=
 wpList_step fun K hK=>by
  have h1:=hS.slots t _ ht;have h2:Region.wanted o (yielded ops a.tmps)=false:=by
   unfold Region.wanted yielded;rw [hg];simp only [hj,aD,h1];rfl
  rw [if_neg (by rw [h2]; simp),hd]; exact hK _ _ (h _ (hS.put hn _))
theorem Ye.k {o:Oper} {v:Value} (h:Ye P o a E w v):po P o a w (fun a' w'=>a'=a.put o.dst v∧w'=w):=fun K' Q hK=>by
 unfold Oper.wp;rw [h w (aj _ _),Oper.upon_value];exact hK _ _ ⟨rfl,rfl⟩
theorem po.mono {o:Oper} {K':Act→World→Prop} (h:po P o a w K) (hk:∀ a w,K a w→K' a w):po P o a w K':=fun K2 Q h2=>h K2 Q fun a w ha=>h2 a w (hk a w ha)
theorem ky {o:Oper} {v:Value} {d:Nat} (hS:St W M T n G D F a w) (h:Ye P o a No w v) (hd:o.dst=some d) (hn:Nat.blt d n=true) (k:∀ a,St W M T n ((d,v)::G) D F a w→K a w):po P o a w K :=
 h.k.mono fun a' w' ⟨h1,h2⟩=>by subst h1 h2; rw [hd]; exact k _ (hS.put hn v)
theorem wy {ops:Array Oper} {Q:Exit→Act→World→Prop} {rest:List Oper} {o:Oper} {v:Value} {d:Nat} (hS:St W M T n G D F a w) (h:Ye P o a No w v) (hg:o.guard=none) (hd:o.dst=some d) (hn:Nat.blt d n=true) (k:∀ a,St W M T n ((d,v)::G) D F a w→wpList P ops Q rest a w):wpList P ops Q (o::rest) a w :=
 wl hg (ky hS h hd hn k)
theorem Ye.of {o:Oper} {v:Value} (h:∀ w,(execOp a.eval o).run P w = .ok (.value v) w):Ye P o a E w v:=fun w' _=>h w'
theorem FN {d:Option Nat} {x:Operand} {ty:TypeId} {v:Value} (hS:St W M T n G D F a w) (hx:ev G x=some v):Ye P ⟨d,.move x,ty,pos,af,g⟩ a E w v :=
 Ye.of fun w=>by simp only [execOp,Sem.run_pure,hS.ev hx]
theorem Bm {d:Option Nat} {x:Operand} {ty:TypeId} {v:Value} (hS:St W M T n G D F a w) (hx:ev G x=some v):Ye P ⟨d,.assign x,ty,pos,af,g⟩ a E w v :=
 Ye.of fun w=>by simp only [execOp,Sem.run_pure,hS.ev hx]
theorem Ha {d:Option Nat} {c x y:Operand} {ty:TypeId} {v:Value} {b:Bool} (hS:St W M T n G D F a w) (hc:ev G c=some (.bool b)) (hb:b=true) (hv:ev G x=some v):Ye P ⟨d,.pick c x y,ty,pos,af,g⟩ a E w v :=
 Ye.of fun w=>by simp [execOp,hS.ev hc,hS.ev hv,asBool,hb]
theorem G9 {d:Option Nat} {c x y:Operand} {ty:TypeId} {v:Value} {b:Bool} (hS:St W M T n G D F a w) (hc:ev G c=some (.bool b)) (hb:b=false) (hv:ev G y=some v):Ye P ⟨d,.pick c x y,ty,pos,af,g⟩ a E w v :=
 Ye.of fun w=>by simp [execOp,hS.ev hc,hS.ev hv,asBool,hb]
def IG:BinOp→IntKind→Int→Int→Option Value
 | .add,k,x,y=>some (.int k (k.wrap (x+y)))
 | .sub,k,x,y=>some (.int k (k.wrap (x-y)))
 | .mul,k,x,y=>some (.int k (k.wrap (x*y)))
 | .eql,_,x,y=>some (.bool (x==y))
 | .neq,_,x,y=>some (.bool (x != y))
 | .lss,_,x,y=>some (.bool (decide (x<y)))
 | .leq,_,x,y=>some (.bool (decide (x≤y)))
 | .gtr,_,x,y=>some (.bool (decide (y<x)))
 | .geq,_,x,y=>some (.bool (decide (y≤x)))
 | _,_,_,_=>none
theorem Bp {d:Option Nat} {op:BinOp} {t t':TypeId} {x y:Operand} {ty:TypeId} {v:Value} {k:IntKind} {p q:Int} (hS:St W M T n G D F a w)
  (hx:ev G x=some (.int k p)) (hy:ev G y=some (.int k q)) (hv:IG op k p q=some v):Ye P ⟨d,.binOp op t x y t',ty,pos,af,g⟩ a E w v :=
 Ye.of fun w=>by
  have h1:=hS.ev hx;have h2:=hS.ev hy;cases op <;> simp only [IG,cE,reduceCtorEq] at hv <;> subst hv <;> simp [execOp,h1,h2,eqGuard,binOp,Op.intArith,Op.intCmp]
theorem yT {d:Option Nat} {t t':TypeId} {x y:Operand} {ty:TypeId} {k:IntKind} {p q:Int} (hS:St W M T n G D F a w)
  (hx:ev G x=some (.int k p)) (hy:ev G y=some (.int k q)) (hq:q≠0):Ye P ⟨d,.binOp .rem t x y t',ty,pos,af,g⟩ a E w (.int k (p.tmod q)) :=
 Ye.of fun w=>by
  have h1:=hS.ev hx;have h2:=hS.ev hy;simp [execOp,h1,h2,eqGuard,binOp,Op.intDiv,hq]
theorem KA {d:Option Nat} {t t':TypeId} {x y:Operand} {ty:TypeId} {k:IntKind} {p q:Int} (hS:St W M T n G D F a w)
  (hx:ev G x=some (.int k p)) (hy:ev G y=some (.int k q)) (hq:q≠0):Ye P ⟨d,.binOp .quo t x y t',ty,pos,af,g⟩ a E w (.int k (k.wrap (p.tdiv q))) :=
 Ye.of fun w=>by
  have h1:=hS.ev hx;have h2:=hS.ev hy;simp [execOp,h1,h2,eqGuard,binOp,Op.intDiv,hq]
def IY:BinOp→ByteArray→ByteArray→Option Value
 | .eql,x,y=>some (.bool (x.toList==y.toList))
 | .neq,x,y=>some (.bool !(x.toList==y.toList))
 | .lss,x,y=>some (.bool (Op.bytesLess x.toList y.toList))
 | .gtr,x,y=>some (.bool !(Op.bytesLess x.toList y.toList||x.toList==y.toList))
 | _,_,_=>none
theorem KB {d:Option Nat} {op:BinOp} {t t':TypeId} {x y:Operand} {ty:TypeId} {v:Value} {p q:ByteArray} (hS:St W M T n G D F a w)
  (hx:ev G x=some (.string p)) (hy:ev G y=some (.string q)) (hv:IY op p q=some v):Ye P ⟨d,.binOp op t x y t',ty,pos,af,g⟩ a E w v :=
 Ye.of fun w=>by
  have h1:=hS.ev hx;have h2:=hS.ev hy;cases op <;> simp only [IY,cE,reduceCtorEq] at hv <;> subst hv <;> simp [execOp,h1,h2,eqGuard,binOp,Op.stringOp]
theorem Kz {d:Option Nat} {t:TypeId} {x:Operand} {ty:TypeId} {b:Bool} (hS:St W M T n G D F a w) (hx:ev G x=some (.bool b)):Ye P ⟨d,.unOp .not t x,ty,pos,af,g⟩ a E w (.bool !b) :=
 Ye.of fun w=>by simp [execOp,hS.ev hx,Op.unary]
theorem Kx {d:Option Nat} {t:TypeId} {x:Operand} {ty:TypeId} {k:IntKind} {p:Int} (hS:St W M T n G D F a w) (hx:ev G x=some (.int k p)):Ye P ⟨d,.unOp .neg t x,ty,pos,af,g⟩ a E w (.int k (k.wrap (0-p))) :=
 Ye.of fun w=>by simp [execOp,hS.ev hx,Op.unary,Op.intArith]
theorem Mc {d:Option Nat} {x:Operand} {i:Nat} {ty:TypeId} {vs:Array Value} {v:Value} (hS:St W M T n G D F a w) (hx:ev G x=some (.tuple vs)) (hv:vs[i]? = some v):Ye P ⟨d,.extract x i,ty,pos,af,g⟩ a E w v :=
 Ye.of fun w=>by simp [execOp,hS.ev hx,Instr.extract,hv]
theorem Ky {d:Option Nat} {x:Operand} {ty:TypeId} {p:Addr} (hS:St W M T n G D F a w) (hx:ev G x=some (.pointer (some p))):Ye P ⟨d,.nilCheck x,ty,pos,af,g⟩ a E w (.pointer (some p)) :=
 Ye.of fun w=>by simp [execOp,hS.ev hx]
def kw (P:Program) (t:TypeId):Option TypeId:=match P.underlying t with
 | some (.slice e)=>some e
 | _=>none
theorem oT {t e:TypeId} (h:kw P t=some e):P.underlying t=some (.slice e):=by
 unfold kw at h;split at h
 ·rename_i e' h1; injection h with h; subst h; exact h1
 ·cases h
theorem FM {d:Option Nat} {x:Operand} {t e:TypeId} {ty:TypeId} {v:Value} {m:Nat} (hS:St W M T n G D F a w) (ht:kw P t=some e) (hx:ev G x=some v) (hv:∃ A c,v = .slice A m c):Ye P ⟨d,.call { callee:=.builtin .len,args:=#[x],argTypes:=#[t] },ty,pos,af,g⟩ a E w (.int .i64 m) :=
 Ye.of fun w=>by
  obtain⟨A,c,rfl⟩:=hv;have h1:=hS.ev hx;simp [execOp,resolve,invoke,builtin,h1,Builtin.len_,run_underlying (oT ht),goInt]
theorem HM {α:Type} {R:aR α} {xs:List α} {d:Option Nat} {x:Operand} {t e:TypeId} {ty:TypeId} {v:Value} (hS:St W M T n G D F a w) (ht:kw P t=some e) (hx:ev G x=some v) (i:Nat) (hi:F[i]? = some (aL R v xs)):Ye P ⟨d,.call { callee:=.builtin .len,args:=#[x],argTypes:=#[t] },ty,pos,af,g⟩ a E w (.int .i64 xs.length) :=
 FM hS ht hx (by obtain⟨A,c,e,_⟩:=aC.len (hS.get i hi); exact⟨A,c,e⟩)
theorem GV {B sz:Nat} {e:TypeId} {v:Value} {cl:ba} (h:lN w B e sz v cl) (hs:0<sz) {m:Nat} (hm:cl.length=m*sz):∃ A c,v = .slice A m c:=by
 obtain⟨A,k,c,rfl,h1,_⟩:=h.form hs;have:k=m:=vQ hs (h1.symm.trans hm);subst this;exact⟨A,c,rfl⟩
theorem FL {α:Type} {R:aR α} {xs:List α} {cl:ba} {d:Option Nat} {x:Operand} {t e e':TypeId} {ty:TypeId} {v:Value} (hS:St W M T n G D F a w) (ht:kw P t=some e) (hx:ev G x=some v) (j:Nat) (hj:D[j]? = some (.own v e' R.size cl)) (i:Nat) (hi:F[i]? = some (an R cl xs)):Ye P ⟨d,.call { callee:=.builtin .len,args:=#[x],argTypes:=#[t] },ty,pos,af,g⟩ a E w (.int .i64 xs.length) :=
 FM hS ht hx (by obtain⟨h1,h2⟩:=hS.own _ (aH hj); exact GV h1 h2 (hS.get i hi:az R _ w cl xs).1)
theorem I3 {d:Option Nat} {x:Operand} {t:TypeId} {ty:TypeId} {s:ByteArray} (hS:St W M T n G D F a w) (ht:P.underlying t=some .string) (hx:ev G x=some (.string s)):Ye P ⟨d,.call { callee:=.builtin .len,args:=#[x],argTypes:=#[t] },ty,pos,af,g⟩ a E w (.int .i64 s.size) :=
 Ye.of fun w=>by
  have h1:=hS.ev hx;simp [execOp,resolve,invoke,builtin,h1,Builtin.len_,run_underlying ht,goInt]
theorem DN {s:TypeId} {f k:Nat} {b o:Nat} (hf:dX P s f=some k) (w:World):(Instr.fieldAt s (.pointer (some ⟨b,o,none⟩)) f).run P w = .ok (.pointer (some ⟨b,o+k,none⟩)) w:=by
 unfold dX at hf;split at hf
 ·rename_i fs hu;split at hf
  ·rename_i fd hfd;split at hf
   ·rename_i i hi;split at hf
    ·cases hf
    ·rename_i hz;injection hf with hf;subst hf;have hsz:(sizeOf fd.type).run P w = .ok i.size w:=by simp [sizeOf,typeInfo,hi]
     have hadd:Addr.add ⟨b,o,none⟩ fd.offset=⟨b,o+fd.offset,none⟩:=by
      unfold Addr.add;split
      ·rename_i h0; rw [h0]; rfl
      ·rfl
     simp [Instr.fieldAt,run_underlying hu,hfd,Instr.sureAddr,fieldPlace,hsz,hz,hadd]
   ·cases hf
  ·cases hf
 ·cases hf
theorem Bo {d:Option Nat} {s:TypeId} {x:Operand} {f k:Nat} {ty:TypeId} {b o:Nat} (hS:St W M T n G D F a w) (hx:ev G x=some (.pointer (some ⟨b,o,none⟩))) (hf:dX P s f=some k):Ye P ⟨d,.fieldAddr s x f,ty,pos,af,g⟩ a E w (.pointer (some ⟨b,o+k,none⟩)) :=
 Ye.of fun w=>by simp [execOp,hS.ev hx,DN hf]
theorem sN {t:TypeId} {b:Bool} {z:Nat} (h:mx P t=some (b,z)) (w:World):(isAgg t).run P w = .ok b w:=by
 unfold mx at h;split at h
 all_goals first | (cases h; done) | skip
 all_goals
  rename_i hu hi;simp only [cE,xC] at h;obtain⟨rfl,_⟩:=h;simp [isAgg,run_underlying hu]
theorem nW {t:TypeId} {b:Bool} {z:Nat} (h:mx P t=some (b,z)) (w:World):(sizeOf t).run P w = .ok z w:=by
 unfold mx at h;split at h
 all_goals first | (cases h; done) | skip
 all_goals
  rename_i hu hi;simp only [cE,xC] at h;obtain⟨_,rfl⟩:=h;simp [sizeOf,typeInfo,hi]
theorem kC (b o k:Nat):Addr.add ⟨b,o,none⟩ k=⟨b,o+k,none⟩:=by
 unfold Addr.add;split
 ·rename_i h0; rw [h0]; rfl
 ·rfl
theorem uC {b o:Nat}:∀ (m:Nat) (us:ba) (i:Nat) (acc:Array Value) (w:World),us.length=m→(∀ j u,us[j]? = some u→w.cell? ⟨b,o+i+j,none⟩=some u)→(loadCellsFrom ⟨b,o,none⟩ i m acc).run P w = .ok (acc++us.toArray) w
 | 0,us,i,acc,w,hl,_=>by
  obtain rfl:=xJ hl;simp [loadCellsFrom]
 | m+1,us,i,acc,w,hl,hc=>by
  cases us with
  | nil=>simp at hl
  | cons u r =>
   have h0:=hc 0 u rfl;have ih:=uC m r (i+1) (acc.push u) w (by simpa using hl) (fun j v hv=>by have:=hc (j+1) v (by simpa using hv); rwa [show o+i+(j+1)=o+(i+1)+j by omega] at this);rw [qC] at h0;simp [loadCellsFrom,kC,h0,load,ih,Sem.run]
theorem yM {t:TypeId} {ag:Bool} {z b o:Nat} {us:ba} {v:Value} (ht:mx P t=some (ag,z)) (hl:us.length=z) (hv:v=cond ag (.agg us.toArray) (us.getD 0 undef)) (hz:ag=false→z=1) (w:World) (hc:∀ j u,us[j]? = some u→w.cell? ⟨b,o+j,none⟩=some u):(loadVar t ⟨b,o,none⟩).run P w = .ok v w:=by
 cases ag with
 | true =>
  have:=uC (P:=P) (b:=b) (o:=o) z us 0 #[] w hl (fun j u hu=>by rw [qC]; exact hc j u hu);rw [hv];simp [loadVar,sN ht,nW ht,loadCells,this]
 | false =>
  have h1:=hz rfl;subst h1;cases us with
  | nil=>simp at hl
  | cons u r =>
   have h0:=hc 0 u rfl;rw [hv];rw [qC] at h0;simp [loadVar,sN ht,load,h0,Sem.run]
def bg (ag:Bool) (us:ba):Value:=cond ag (.agg us.toArray) (us.getD 0 undef)
theorem tN {t:TypeId} {ag:Bool} {z b o:Nat} {us:ba} (ht:mx P t=some (ag,z)) (hl:us.length=z) (hz:ag=false→z=1) (w:World) (hc:∀ j u,us[j]? = some u→w.cell? ⟨b,o+j,none⟩=some u):(Instr.loadAt t (.pointer (some ⟨b,o,none⟩))).run P w = .ok (bg ag us) w:=by
 simp [Instr.loadAt,Instr.sureAddr,yM ht hl rfl hz w hc,bg]
theorem dh {d:Option Nat} {t ty:TypeId} {x:Operand} {ag:Bool} {z b o:Nat} {cs us:ba} {bt:TypeId} (hS:St W M T n G D F a w) (hx:ev G x=some (.pointer (some ⟨b,o,none⟩))) (ht:mx P t=some (ag,z)) (i:Nat) (hi:D[i]? = some (.box b cs bt)) (hE:¬ E b)
  (hu:(cs.drop o).take z=us) (hl:us.length=z) (hz:ag=false→z=1):Ye P ⟨d,.load t x,ty,pos,af,g⟩ a E w (bg ag us):=fun w' hk=>by
 have hr:w.heap[b]? = some (.cells cs.toArray bt (0,0)):=hS.own _ (aH hi);have hr':=(hk.block b (sA.1 hr).1 hE).trans hr;have:=tN (P:=P) (b:=b) (o:=o) ht hl hz w' (fun j u hj=>by
  rw [cell_of_row _ _ _ _ _ _ hr',List.getElem?_toArray];rw [← hu,pn] at hj;split at hj
  ·rw [sw] at hj; exact hj
  ·cases hj)
 simp [execOp,hS.ev hx,this]
theorem uK {d:Option Nat} {t ty:TypeId} {x:Operand} {ag:Bool} {z b o k:Nat} {cs us:ba} (hS:St W M T n G D F a w) (ht:mx P t=some (ag,z)) (i:Nat) (hi:F[i]? = some (ji b o cs)) (hx:ev G x=some (.pointer (some ⟨b,o+k,none⟩))) (hE:∀ j,E j→dT T D j∨w.heap.size≤j)
  (hu:(cs.drop k).take z=us) (hl:us.length=z) (hz:ag=false→z=1):Ye P ⟨d,.load t x,ty,pos,af,g⟩ a E w (bg ag us):=fun w' hk=>by
 have hc:lO (dT T D) w b o cs:=hS.get i hi;have hk2:Kt (dT T D) w w':=⟨hk.os,hk.tape,hk.output,hk.size,fun j hj hn=>hk.block j hj fun he=>(hE j he).elim hn fun h=>by omega⟩;have hc':=(hc.keep hk2 (Nw.refl _ _)).sub (ds:=us) k (fun j u hj=>by
  rw [← hu,pn] at hj;split at hj
  ·rw [sw] at hj; exact hj
  ·cases hj)
 have:=tN (P:=P) (b:=b) (o:=o+k) ht hl hz w' hc'.2.2;simp [execOp,hS.ev hx,this]
theorem Bn {d:Option Nat} {s:TypeId} {x:Operand} {f:Nat} {ty:TypeId} {cs:Array Value} {ag:Bool} {z k:Nat} {us:ba} {fs:Array Field} {fd:Field} (hS:St W M T n G D F a w) (hx:ev G x=some (.agg cs)) (hs:P.underlying s=some (.struct fs)) (hf:fs[f]? = some fd) (hk:fd.offset=k) (ht:mx P fd.type=some (ag,z))
  (hu:(cs.toList.drop k).take z=us) (hl:us.length=z) (hz:ag=false→z=1):Ye P ⟨d,.field s x f,ty,pos,af,g⟩ a E w (bg ag us) :=
 Ye.of fun w=>by
  have h1:=hS.ev hx;subst hk;have hp:(part fd.type cs fd.offset).run P w = .ok (bg ag us) w:=by
   cases ag with
   | true =>
    have:cs.extract fd.offset (fd.offset+z)=us.toArray:=by
     rw [← hu];apply Bv.1;rw [Array.toList_extract,List.extract_eq_take_drop];simp
    simp [part,sN ht,nW ht,this,bg]
   | false =>
    have h1:=hz rfl;subst h1;have:cs[fd.offset]? = some (us.getD 0 undef):=by
     rw [← hu] at hl ⊢;rw [il,rJ] at hl;have hlt:fd.offset<cs.toList.length:=by omega
     rw [← Array.getElem?_toList,bC hlt];simp [FQ,pn,sw,bC hlt]
    simp [part,sN ht,this,bg]
  simp [execOp,h1,Instr.field,run_underlying hs,hf,asAgg,hp]
theorem zO {d:Option Nat} {s:TypeId} {x y:Operand} {ty:TypeId} {k:IntKind} {i:Int} {p:ByteArray} {c:UInt8} (hS:St W M T n G D F a w) (hs:P.underlying s=some .string) (hx:ev G x=some (.string p)) (hy:ev G y=some (.int k i)) (hc:bk p.toList i=some c):Ye P ⟨d,.index s x y,ty,pos,af,g⟩ a E w (.int .u8 c.toNat) :=
 Ye.of fun w=>by
  have h1:=hS.ev hx;have h2:=hS.ev hy;obtain⟨q1,q2,q3⟩:=eU hc;have h3:p[i.toNat]? = some c:=by
   rw [ByteArray.toList_eq,Array.getElem?_toList] at q3;rw [← q3]; rfl
  simp [execOp,h1,h2,Instr.index,asIntOf,run_underlying hs,q1,h3]
end
end
section
open Go.RowKit
variable {pos:String} {af:Array Edge} {g:Option (Nat×Bool)}
def jh (P:Program) (t:TypeId):Option (ba):=match P.info? t with
 | some i=>match i.zero with
  | some z=>some z.cells.toList
  | none=>none
 | none=>none
def kT (cs:ba) (o:Nat) (us:ba):ba:=cs.take o++us++cs.drop (o+us.length)
def yp (pl:List (Nat×Nat)) (cs:ba):List (Nat×Value)→List (ba)→Option (ba)
 | [],[]=>some cs
 | p::r,u::s=>match pl[p.1]? with
  | some q=>cond (Nat.beq u.length q.2&&Nat.ble (q.1+q.2) cs.length) (yp pl (kT cs q.1 u) r s) none
  | none=>none
 | _,_=>none
def Cs:List (Nat×Value)→List (ba)→Prop
 | [],[]=>True
 | p::r,u::s=>p.2.cells.toList=u∧Cs r s
 | _,_=>False
theorem lh {v:Value} (h:v.oneCell'=true):v.cells.toList=[v]:=by cases v <;> first | rfl | cases h
def Bx (P:Program) (t:TypeId):Option (List (Nat×Nat)):=match P.underlying t with
 | some (.struct fs)=>fs.toList.mapM fun f=>(P.info? f.type).map fun i=>(f.offset,i.size)
 | _=>none
def evp (G:List (Nat×Value)):List (Nat×Operand)→Option (List (Nat×Value))
 | []=>some []
 | p::r=>match ev G p.2 with
  | some v=>match evp G r with
   | some vs=>some ((p.1,v)::vs)
   | none=>none
  | none=>none
theorem A8:∀ (us:ba) (o k:Nat) (cs:Array Value),o+k+us.length≤cs.size→((us.zipIdx k).foldl (fun cs x=>cs.setIfInBounds (o+x.2) x.1) cs).toList=cs.toList.take (o+k)++us++cs.toList.drop (o+k+us.length)
 | [],o,k,cs,h=>by simp
 | u::r,o,k,cs,h=>by
  simp only [g9] at h;rw [List.zipIdx_cons,CW,A8 r o (k+1) _ (by simp; omega)];simp only [Array.toList_setIfInBounds,g9];apply List.ext_getElem?;intro j;have hl:cs.toList.length=cs.size:=by simp
  simp only [List.getElem?_append,cW,il,List.length_set,pn,rv,sw,g9];rw [hl];rw [show min (o+(k+1)) cs.size=o+k+1 by omega,show min (o+k) cs.size=o+k by omega];by_cases h1:j<o+k
  ·simp [h1,show j<o+k+1+r.length by omega,show j<o+(k+1) by omega,show j<o+k+1 by omega,show j<o+k+(r.length+1) by omega,show ¬ o+k=j by omega]
  ·by_cases h2:j=o+k
   ·subst h2;simp [show o+k<o+k+1+r.length by omega,show o+k<o+(k+1) by omega,show o+k<cs.size by omega]
   ·by_cases h3:j<o+k+1+r.length
    ·simp [h1,h3,show ¬ j<o+k+1 by omega,show j<o+k+(r.length+1) by omega];rw [show j-(o+k)=(j-(o+k+1))+1 by omega,yV]
    ·simp [h3,show ¬ j<o+k+1 by omega,show ¬ j<o+k+(r.length+1) by omega,show ¬ o+k=o+(k+1)+r.length+(j-(o+k+1+r.length)) by omega];congr 1; omega
theorem zk {place:Nat→Option (Nat×Nat)} {pl:List (Nat×Nat)} (hp:∀ i q,pl[i]? = some q→place i=some q):∀ (parts:List (Nat×Value)) (us:List (ba)) (cs ws:ba),Cs parts us→yp pl cs parts us=some ws→Instr.fill place cs.toArray parts=some ws.toArray
 | [],[],cs,ws,_,h=>by simp only [yp,cE] at h; subst h; rfl
 | [],_::_,_,_,h,_=>h.elim
 | _::_,[],_,_,h,_=>h.elim
 | (i,v)::r,u::s,cs,ws,hc0,h=>by
  obtain⟨hu,hc1⟩:=hc0;simp only at hu;subst hu;simp only [yp] at h;cases hq:pl[i]? with
  | none=>rw [hq] at h; cases h
  | some q =>
   obtain⟨off,size⟩:=q;rw [hq] at h;simp only at h;cases hc:(Nat.beq v.cells.toList.length size&&Nat.ble (off+size) cs.length) with
   | false=>rw [hc] at h; cases h
   | true =>
    rw [hc] at h;simp only [cond_true] at h;simp only [nX] at hc;have h1:v.cells.size=size:=by have:=xI hc.1; simpa using this
    have h2:off+size≤cs.length:=oh hc.2;have ih:=zk hp r s _ ws hc1 h;have e:(v.cells.zipIdx.foldl (fun cs x=>cs.setIfInBounds (off+x.2) x.1) cs.toArray)=(kT cs off v.cells.toList).toArray:=by
     apply Bv.1;rw [← Array.foldl_toList,Array.toList_zipIdx,A8 _ off 0 _ (by simp; omega)];simp [kT]
    have h3:¬ (v.cells.size≠size||decide (off+v.cells.size>cs.toArray.size))=true:=by simp [h1]; omega
    simp only [Instr.fill,hp i _ hq];simp only [ne_eq,decide_not,tf,sv,decide_eq_false_iff_not,decide_eq_true_eq] at h3 ⊢;rw [if_neg h3];rw [← ih];congr 1
section
variable {P:Program} {W:World} {M T E:Nat→Prop} {n:Nat} {G G':List (Nat×Value)} {D D':List cc} {F F':List bG} {a:Act} {w w':World} {K:Act→World→Prop}
theorem uY {o:Oper} {v:Value} {w':World} (h:(execOp a.eval o).run P w = .ok (.value v) w') (hk:K (a.put o.dst v) w'):po P o a w K:=fun K' Q hK=>by
 unfold Oper.wp;rw [h,Oper.upon_value];exact hK _ _ hk
theorem AI {o:Oper} {w':World} (h:(execOp a.eval o).run P w = .ok .skip w') (hk:K (a.put o.dst undef) w'):po P o a w K:=fun K' Q hK=>by
 unfold Oper.wp;rw [h,Oper.upon_skip];exact hK _ _ hk
theorem vu {t:TypeId} {cs:ba} (h:jh P t=some cs) (w:World):∃ z:Value,z.cells.toList=cs∧(zeroValue t).run P w = .ok z w:=by
 unfold jh at h;split at h
 ·rename_i i hi;split at h
  ·rename_i z hz;injection h with h;exact⟨z,h,by simp [zeroValue,typeInfo,hi,hz]⟩
  ·cases h
 ·cases h
theorem cC {d:Nat} {t ty:TypeId} {cs:ba} (hS:St W M T n G D F a w) (hz:jh P t=some cs) (hn:Nat.blt d n=true)
  (k:∀ b,w.heap.size≤b→∀ a w',Kt No w w'→St W M T n ((d,.pointer (some ⟨b,0,none⟩))::G) (.box b cs t::D) F a w'→K a w'):po P ⟨some d,.alloc t,ty,pos,af,g⟩ a w K:=by
 obtain⟨z,hz1,hz2⟩:=vu hz w;have hr:(execOp a.eval ⟨some d,.alloc t,ty,pos,af,g⟩).run P w = .ok (.value (.pointer (some ⟨w.heap.size,0,none⟩))) (w.alloc (.cells cs.toArray t)):=by
  subst hz1;simp [execOp,Instr.alloc,hz2,newVar,newRow]
 exact uY hr (k w.heap.size (cM _) _ _ (Kt.alloc _ _) ((hS.alloc cs t).put hn _))
theorem Cy {d:Nat} {t ty:TypeId} {x:Operand} {v:Value} {cs:ba} (hS:St W M T n G D F a w) (hx:ev G x=some v) (hv:v.cells.toList=cs) (hn:Nat.blt d n=true)
  (k:∀ b,w.heap.size≤b→∀ a w',Kt No w w'→St W M T n ((d,.pointer (some ⟨b,0,none⟩))::G) (.box b cs t::D) F a w'→K a w'):po P ⟨some d,.box t x,ty,pos,af,g⟩ a w K:=by
 have hr:(execOp a.eval ⟨some d,.box t x,ty,pos,af,g⟩).run P w = .ok (.value (.pointer (some ⟨w.heap.size,0,none⟩))) (w.alloc (.cells cs.toArray t)):=by
  subst hv;simp [execOp,Instr.box,hS.ev hx,newVar,newRow]
 exact uY hr (k w.heap.size (cM _) _ _ (Kt.alloc _ _) ((hS.alloc cs t).put hn _))
theorem yg {t:TypeId} {ag:Bool} {z:Nat} (ht:mx P t=some (ag,z)) {b o:Nat} {cs:Array Value} {bt:TypeId} {v:Value} (hr:w.heap[b]? = some (.cells cs bt (0,0))) (hz:v.cells.toList.length=z) (hl:o+z≤cs.size) (h1:∀ u∈v.cells.toList,u.oneCell'=true) :
  (Instr.storeAt t (.pointer (some ⟨b,o,none⟩)) v).run P w = .ok () (w.setRow b (cs.toList.take o++v.cells.toList++cs.toList.drop (o+z)).toArray):=by
 have h2:=run_storeCells_at (P:=P) b o bt v.cells.toList 0 cs w hr (by omega) h1;simp only [qC,hz] at h2;have h3:v.cells.size=z:=by rw [← hz]; simp
 simp [Instr.storeAt,Instr.sureAddr,storeVar,nW ht,h3,h2]
theorem qK {t ty:TypeId} {x y:Operand} {ag:Bool} {z b o:Nat} {cs us:ba} {bt:TypeId} {v:Value} (hS:St W M T n G D F a w) (hx:ev G x=some (.pointer (some ⟨b,o,none⟩))) (hy:ev G y=some v) (hv:v.cells.toList=us) (ht:mx P t=some (ag,z)) (i:Nat) (hi:D[i]? = some (.box b cs bt))
  (hz:us.length=z) (hl:Nat.ble (o+z) cs.length=true) (h1:∀ u∈us,u.oneCell'=true)
  (k:∀ w',Kt (fun j=>j=b) w w'→St W M T n G (D.set i (.box b (kT cs o us) bt)) F a w'→K a w'):po P ⟨none,.store t x y,ty,pos,af,g⟩ a w K:=by
 have hr:w.heap[b]? = some (.cells cs.toArray bt (0,0)):=hS.own _ (aH hi);subst hv;have hle:=oh hl;have hst:=yg (P:=P) ht hr hz (by simpa using hle) h1;have hrow:(w.setRow b (cs.take o++v.cells.toList++cs.drop (o+z)).toArray).heap[b]? = some (.cells (cs.take o++v.cells.toList++cs.drop (o+z)).toArray bt (0,0)):=setRow_heap w b cs.toArray _ bt _ hr;have hk:Kt (fun j=>cc.dom (.box b cs bt) j) w (w.setRow b (cs.take o++v.cells.toList++cs.drop (o+z)).toArray):=by
  refine⟨rfl,rfl,rfl,by simp [World.setRow],fun j hj hn=>?_⟩;have hne:b≠j:=fun e=>hn (by simp [cc.dom,e]);simp [World.setRow,ss,hne]
 refine AI (w':=w.setRow b (cs.take o++v.cells.toList++cs.drop (o+z)).toArray) (by simp [execOp,hS.ev hx,hS.ev hy,hst]) (k _ (hk.mono fun j hj=>by simp only [cc.dom,cE] at hj; exact hj.symm) ?_);have:=hS.turn hi hk (r':=.box b (kT cs o v.cells.toList) bt) (by rw [kT,hz]; exact hrow) (fun j hj=>.inl hj);exact this
theorem AQ {α β:Type} (f:α→Sem β) (g:α→Option β) (w:World) (hf:∀ x y,g x=some y→(f x).run P w = .ok y w):∀ (l:List α) (r:List β),l.mapM g=some r→(l.mapM f).run P w = .ok r w
 | [],r,h=>by simp only [List.mapM_nil,Option.pure_def,cE] at h; subst h; simp
 | x::l,r,h=>by
  simp only [List.mapM_cons,Option.bind_eq_bind,Option.pure_def] at h;cases h1:g x with
  | none=>rw [h1] at h; cases h
  | some y =>
   cases h2:l.mapM g with
   | none=>rw [h1,h2] at h; cases h
   | some ys =>
    rw [h1,h2] at h;simp only [aD,cE] at h;subst h;simp [List.mapM_cons,hf x y h1,AQ f g w hf l ys h2]
theorem St.evp (h:St W M T n G D F a w):∀ {ps:List (Nat×Operand)} {vs:List (Nat×Value)},evp G ps=some vs→ps.map (fun p=>(p.1,a.eval p.2))=vs
 | [],vs,hx=>by simp only [Proofs.YtdcojaccpnabkaaGreatDoor.evp,cE] at hx; subst hx; rfl
 | (i,x)::r,vs,hx=>by
  simp only [Proofs.YtdcojaccpnabkaaGreatDoor.evp] at hx;cases h1:Proofs.YtdcojaccpnabkaaGreatDoor.ev G x with
  | none=>rw [h1] at hx; cases hx
  | some v =>
   cases h2:Proofs.YtdcojaccpnabkaaGreatDoor.evp G r with
   | none=>rw [h1,h2] at hx; cases hx
   | some us =>
    rw [h1,h2] at hx;simp only [cE] at hx;subst hx;rw [uL,h.ev h1,h.evp h2]
theorem bp {d:Option Nat} {t ty:TypeId} {ps:List (Nat×Operand)} {pl:List (Nat×Nat)} {zs ws:ba} {us:List (ba)} {vs:List (Nat×Value)} (hS:St W M T n G D F a w) (hp:Bx P t=some pl) (hz:jh P t=some zs) (hv:evp G ps=some vs) (hcs:Cs vs us) (hf:yp pl zs vs us=some ws) :
  Ye P ⟨d,.build t ps.toArray,ty,pos,af,g⟩ a E w (.agg ws.toArray) :=
 Ye.of fun w=>by
  unfold Bx at hp;split at hp
  ·rename_i fs hu;obtain⟨z,hz1,hz2⟩:=vu hz w;have h1:=AQ (P:=P) (fun f=>do pure (f.offset,← sizeOf f.type)) (fun f=>(P.info? f.type).map fun i=>(f.offset,i.size)) w (fun x y hy=>by
    cases hi:P.info? x.type with
    | none=>rw [hi] at hy; cases hy
    | some i=>rw [hi] at hy; simp only [nZ,cE] at hy; subst hy; simp [sizeOf,typeInfo,hi]) fs.toList pl hp
   have h2:(fs.mapM (m:=Sem) fun f=>do pure (f.offset,← sizeOf f.type)).run P w = .ok pl.toArray w:=by
    rw [Array.mapM_eq_mapM_toList,Sem.run_map,h1]; rfl
   have h3:=zk (place:=(pl.toArray[·]?)) (pl:=pl) (fun i q hq=>by simpa using hq) vs us zs ws hcs hf;have hzc:z.cells=zs.toArray:=by rw [← hz1]
   have h4:(ps.toArray.map (fun p=>(p.1,a.eval p.2))).toList=vs:=by rw [← hS.evp hv]; simp
   have h5:(Instr.build t (ps.toArray.map (fun p=>(p.1,a.eval p.2)))).run P w = .ok (.agg ws.toArray) w:=by
    unfold Instr.build;simp only [Sem.run_bind,hz2,Result.andThen_ok,run_underlying hu,h2,hzc,h4,h3,Sem.run_pure]
   simp [execOp] at h5 ⊢;rw [h5]; rfl
  ·cases hp
end
end
section
open Go.RowKit
section
variable {P:Program} {ops:Array Oper} {Q:Exit→Act→World→Prop} {md:Region.Mode} {E:Nat→Prop}
inductive Tn where
 | any
 | blk (o:Option Nat)
 | new (N:Nat)
 | bks (l:List (Option Nat))
def Et:Tn→Nat→Prop
 | .any,_=>True
 | .blk o,k=>o=some k
 | .new N,k=>N≤k
 | .bks l,k=>some k∈l
def Eo (l:List (Tn)) (k:Nat):Prop:=∃ e∈l,Et e k
def tB (mods:List (Nat×Tn)) (i:Nat):List (Tn):=(mods.filter fun p=>Nat.beq p.1 i).map (·.2)
def Hd (mods:List (Nat×Tn)) (i:Nat) (w w':World):Prop:=Kt (Eo (tB mods i)) w w'
def sr (ops:Array Oper) (listed:Array Bool) (i:Nat):Nat→Nat→Bool
 | 0,_=>false
 | n+1,j=>match ops[j]? with
  | some oj=>oj.after.any fun e=>Region.binds .any e&&(Nat.beq e.on i||(!listed.getD e.on true&&sr ops listed i n e.on))
  | none=>true
def wN (ops:Array Oper) (listed:Array Bool) (i j:Nat):Bool:=listed.getD j true||sr ops listed i 5 j
def rem (ops:Array Oper) (mods:List (Nat×Tn)) (listed:Array Bool) (i:Nat):List (Tn):=(mods.filter fun p=>!wN ops listed i p.1).map (·.2)
def qE (P:Program) (ops:Array Oper) (Q:Exit→Act→World→Prop) (mods:List (Nat×Tn)):Nat→Array Bool→Act→World→Prop
 | 0,listed,a,w=>Region.ready .any ops listed=[]∧Q .normal a w
 | fuel+1,listed,a,w =>
  (Region.ready .any ops listed=[]→Q .normal a w) ∧
  ∀ i∈Region.ready .any ops listed,wpOp P ops Q i (fun a' w'=>Hd mods i w w'∧qE P ops Q mods fuel (listed.setIfInBounds i true) a' w') a w
theorem CT {mods:List (Nat×Tn)}:∀ (fuel:Nat) (listed:Array Bool) (a:Act) (w:World),qE P ops Q mods fuel listed a w→wpAny P .any ops Q fuel listed a w
 | 0,_,_,_,h=>h
 | fuel+1,listed,a,w,h=>⟨h.1,fun i hi=>wpOp_mono (fun a w h=>CT fuel _ a w h.2) (h.2 i hi)⟩
theorem GI {l:Array Bool} {i:Nat} (h:l.getD i false=true):l.getD i true=true:=by
 rcases ik i l.size with h' | h'
 ·simp [h'] at h ⊢; exact h
 ·simp [C4 h'] at h
theorem Bj {listed:Array Bool} {i j:Nat} {oj:Oper} (hj:ops[j]? = some oj) (hall:∀ e∈oj.after,Region.binds .any e=true→listed.getD e.on false=true) (hno:∀ e∈oj.after,Region.binds .any e=true→e.on≠i):∀ n,sr ops listed i n j=false
 | 0=>rfl
 | n+1=>by
  cases h:sr ops listed i (n+1) j with
  | false=>rfl
  | true =>
   unfold sr at h;rw [hj] at h;dsimp only at h;obtain⟨e,he,hb⟩:=C5.1 h;simp only [nX,tf,sv] at hb;rcases hb.2 with h1 | h1
   ·exact absurd (xI h1) (hno e he hb.1)
   ·rw [GI (hall e he hb.1)] at h1; cases h1.1
theorem Ey {listed:Array Bool} {i j:Nat} {oj:Oper} (hj:ops[j]? = some oj) (hun:listed.getD j true=false) (hall:∀ e∈oj.after,Region.binds .any e=true→listed.getD e.on false=true) (hno:∀ e∈oj.after,Region.binds .any e=true→e.on≠i):wN ops listed i j=false:=by
 unfold wN;rw [hun,Bj hj hall hno]; rfl
theorem yS {listed:Array Bool} {i j:Nat} (hw:∀ n,sr ops listed i n j=false):∀ n k,sr ops listed i n k=true→sr ops (listed.setIfInBounds j true) i n k=true
 | 0,_,h=>h
 | n+1,k,h=>by
  unfold sr at h ⊢;cases hk:ops[k]? with
  | none=>rfl
  | some ok =>
   rw [hk] at h;dsimp only at h ⊢;obtain⟨e,he,hb⟩:=C5.1 h;refine C5.2 ⟨e,he,?_⟩;simp only [nX,tf,sv] at hb ⊢;refine⟨hb.1,?_⟩;rcases hb.2 with h1 | ⟨h1,h2⟩
   ·exact .inl h1
   ·by_cases hej:j=e.on
    ·rw [← hej,hw n] at h2; cases h2
    ·exact .inr ⟨by rw [getD_set_ne true hej]; exact h1,yS hw n _ h2⟩
theorem Do {listed:Array Bool} {i j k:Nat} (hw:∀ n,sr ops listed i n j=false) (h:wN ops (listed.setIfInBounds j true) i k=false):wN ops listed i k=false:=by
 unfold wN at *;rw [Bool.or_eq_false_iff] at h ⊢;refine⟨?_,?_⟩
 ·have h1:=h.1;by_cases hjk:j=k
  ·subst hjk;by_cases hl:j<listed.size
   ·simp [hl] at h1
   ·simp [C4 (by omega:listed.size≤j)] at h1
  ·rw [getD_set_ne true hjk] at h1; exact h1
 ·cases h2:sr ops listed i 5 k with
  | false=>rfl
  | true=>rw [yS hw 5 k h2] at h; cases h.2
def YE (P:Program) (ops:Array Oper) (E:Nat→Prop) (w0:World) (o:Oper) (v:Value) (a:Act):Prop :=
 (Region.wanted o (yielded ops a.tmps)=true∧∀ w,Kt E w0 w→(execOp a.eval o).run P w = .ok (.value v) w) ∨
 (Region.wanted o (yielded ops a.tmps)=false∧v=undef)
theorem YE.wpOp {w0:World} {i:Nat} {o:Oper} {v:Value} {a:Act} (hi:ops[i]? = some o) (hy:YE P ops E w0 o v a)
  {K:Act→World→Prop} {w:World} (hw0:Kt E w0 w) (h:K (a.put o.dst v) w):wpOp P ops Q i K a w:=by
 unfold Go.wpOp;simp only [hi];rcases hy with⟨hw,hv⟩|⟨hw,rfl⟩
 ·simp only [hw,if_true,Oper.wp,hv w hw0,Oper.upon]; exact .inl h
 ·simp only [hw,Bool.false_eq_true,if_false]; exact h
theorem YE.of_same {w0:World} {o:Oper} {v:Value} {a a':Act} (hy:YE P ops E w0 o v a) (he:execOp a'.eval o=execOp a.eval o)
  (hw:Region.wanted o (yielded ops a'.tmps)=Region.wanted o (yielded ops a.tmps)):YE P ops E w0 o v a':=by
 unfold YE at *;rw [he,hw];exact hy
theorem D2 {w0:World} {j:Nat} {oi oj:Oper} {v:Value} (hj:ops[j]? = some oj) (hap:oi.apart ops oj=true)
  (hsi:∀ cs b,oi.op ≠ .select cs b) (hsj:∀ cs b,oj.op ≠ .select cs b)
  (hQ:∀ c a w,Q (.panic c) (a.put oi.dst v) w→Q (.panic c) a w) {K:Act→World→Prop} {a:Act} {w:World}
  (hy:YE P ops E w0 oi v a) (h:wpOp P ops Q j K (a.put oi.dst v) w) :
  wpOp P ops Q j (fun a' w'=>YE P ops E w0 oi v a'∧K (a'.put oi.dst v) w') a w:=by
 obtain⟨h1,h2,h3⟩:=Oper.apart_spec hap;have keep:∀ (a:Act),YE P ops E w0 oi v a→∀ u,YE P ops E w0 oi v (a.put oj.dst u):=fun a hy u =>
  hy.of_same (execOp_put oi hsi a oj.dst u h3) (wanted_put oi a oj.dst u h3)
 have keepD:∀ d,YE P ops E w0 oi v { a with defers:=d::a.defers }:=fun d=>hy.of_same rfl rfl;unfold wpOp at *;simp only [hj] at *;rw [wanted_put oj a oi.dst v h1] at h;split
 ·rename_i hw;simp only [hw,if_true] at h;rcases h with h | ⟨hasks,hlets⟩
  case inr=>exact .inr ⟨by unfold Oper.asks at *; rw [execOp_put oj hsj a oi.dst v h1] at hasks; exact hasks,hlets⟩
  refine .inl ?_;unfold Oper.wp at *;rw [execOp_put oj hsj a oi.dst v h1] at h;generalize (execOp a.eval oj).run P w=r at *;cases r with
  | ok n w' =>
   cases n <;> simp only [Oper.upon] at h ⊢
   case value u=>exact⟨keep a hy u,by rw [← Act.put_comm a v u h2]; exact h⟩
   case skip=>exact⟨keep a hy _,by rw [← Act.put_comm a v undef h2]; exact h⟩
   case defer d =>
    refine⟨keep _ (keepD d) _,?_⟩;rw [← Act.put_comm _ v undef h2,← Act.put_defers];exact h
   case enter f args =>
    refine Calls.mono h fun e w'' he=>?_;cases e with
    | returned u=>exact⟨keep a hy u,by rw [← Act.put_comm a v u h2]; exact he⟩
    | panicked c=>exact hQ _ _ _ he
    | outgrown=>exact he
   case row row args=>exact Rows.mono h fun u w'' he=>⟨keep a hy u,by rw [← Act.put_comm a v u h2]; exact he⟩
  | halt x w' =>
   cases x <;> simp only [Oper.upon] at h ⊢
   case panic u=>exact hQ _ _ _ h
 ·rename_i hw;simp only [hw] at h;exact⟨keep a hy _,by rw [← Act.put_comm a v undef h2]; exact h⟩
theorem DZ {mods:List (Nat×Tn)} {w0:World} {i:Nat} {oi:Oper} {v:Value} (hi:ops[i]? = some oi) (hsel:∀ (j:Nat) (o:Oper) cs b,ops[j]? = some o→o.op ≠ .select cs b)
  (hQ:∀ c a w,Q (.panic c) (a.put oi.dst v) w→Q (.panic c) a w) :
  ∀ (fuel:Nat) (listed:Array Bool) (a:Act) (w:World),
   (∀ j oj,ops[j]? = some oj→j≠i→listed.getD j true=false→(∀ e∈oj.after,Region.binds .any e=true→e.on≠i)→oi.apart ops oj=true) →
   i∈Region.ready .any ops listed→(∀ p∈mods,wN ops listed i p.1=false→∀ k,Et p.2 k→E k)→YE P ops E w0 oi v a→Kt E w0 w →
   qE P ops Q mods fuel (listed.setIfInBounds i true) (a.put oi.dst v) w→qE P ops Q mods (fuel+1) listed a w:=by
 intro fuel
 induction fuel with
 | zero =>
  intro listed a w _ hr _ hy hw0 H;refine⟨fun h=>(by rw [h] at hr; cases hr),fun j hj=>?_⟩;by_cases hji:j=i
  ·subst hji; exact hy.wpOp hi hw0 ⟨aj _ _,H⟩
  ·have:=ready_mono hj hji;rw [H.1] at this;cases this
 | succ fuel ih =>
  intro listed a w hfree hr hbef hy hw0 H;refine⟨fun h=>(by rw [h] at hr; cases hr),fun j hj=>?_⟩;by_cases hji:j=i
  ·subst hji; exact hy.wpOp hi hw0 ⟨aj _ _,H⟩
  ·have h1:=H.2 j (ready_mono hj hji);obtain⟨hjun,oj,hoj,hall⟩:=mem_ready.1 hj;have hnot:∀ e∈oj.after,Region.binds .any e=true→e.on≠i:=fun e he hb heq=>by
    have h1:=hall e he hb;have h0:=(mem_ready.1 hr).1;rw [heq] at h1;rcases ik i listed.size with h' | h'
    ·simp [h'] at h0 h1; rw [h0] at h1; cases h1
    ·simp [C4 h'] at h1
   have h2:=D2 hoj (hfree j oj hoj hji hjun hnot) (fun cs b=>hsel i oi cs b hi) (fun cs b=>hsel j oj cs b hoj) hQ hy h1;have hfree':∀ k ok,ops[k]? = some ok→k≠i→(listed.setIfInBounds j true).getD k true=false →
     (∀ e∈ok.after,Region.binds .any e=true→e.on≠i)→oi.apart ops ok=true:=fun k ok hk hki hun hno=>by
    refine hfree k ok hk hki ?_ hno;by_cases hjk:j=k
    ·subst hjk; exact hjun
    ·rw [getD_set_ne true hjk] at hun; exact hun
   refine wpOp_mono (fun a' w' h3=>⟨h3.2.1,ih (listed.setIfInBounds j true) a' w' hfree' (ready_mono hr (Ne.symm hji)) (fun p hp hd=>hbef p hp (Do (Bj hoj hall hnot) hd)) h3.1 (hw0.trans ?_) ?_⟩) h2
   ·refine Kt.mono h3.2.1 fun k hk=>?_;obtain⟨e,he,hek⟩:=hk;obtain⟨p,hp,rfl⟩:=eS.1 he;rw [gc] at hp;have hpj:=xI hp.2;exact hbef p hp.1 (by rw [hpj]; exact Ey hoj hjun hall hnot) k hek
   ·rw [Array.setIfInBounds_comm _ _ hji];exact h3.2.2
theorem uJ {mods:List (Nat×Tn)} {l:List (Tn)} {i:Nat} {oi:Oper} {v:Value} {fuel:Nat} {listed:Array Bool} {a:Act} {w:World} (hi:ops[i]? = some oi)
  (hs:Region.noSelect ops=true) (hf:Region.free .any ops listed i=true) (hr:(Region.ready .any ops listed).contains i=true) (hb:rem ops mods listed i=l)
  (hQ:∀ c a w,Q (.panic c) (a.put oi.dst v) w→Q (.panic c) a w) (hy:YE P ops (Eo l) w oi v a)
  (h:qE P ops Q mods fuel (listed.setIfInBounds i true) (a.put oi.dst v) w):qE P ops Q mods (fuel+1) listed a w :=
 DZ hi (Region.noSelect_spec hs) hQ fuel listed a w (Region.free_spec hi hf) (by simpa using hr)
  (fun p hp hd k hk=>⟨p.2,by rw [← hb]; exact eS.2 ⟨p,gc.2 ⟨hp,by rw [hd]; rfl⟩,rfl⟩,hk⟩) hy (aj _ _) h
theorem rr {mods:List (Nat×Tn)} {i:Nat} {oi:Oper} {fuel:Nat} {listed:Array Bool} {a:Act} {w:World} (hi:ops[i]? = some oi) (hr:Region.ready .any ops listed=[i]) (hg:oi.guard=none)
  (h:po P oi a w (fun a' w'=>Hd mods i w w'∧qE P ops Q mods fuel (listed.setIfInBounds i true) a' w')):qE P ops Q mods (fuel+1) listed a w:=by
 refine⟨fun h=>(by rw [h] at hr; cases hr),fun j hj=>?_⟩;rw [hr,dq] at hj;subst hj;unfold wpOp;rw [hi];simp only;rw [if_pos (by simp [Region.wanted,hg])];exact .inl (h _ _ fun a w h=>h)
theorem cS {mods:List (Nat×Tn)} {W:World} {M T:Nat→Prop} {n:Nat} {G:List (Nat×Value)} {D:List cc} {F:List bG} {i:Nat} {oi:Oper} {fuel:Nat} {listed:Array Bool} {a:Act} {w:World} {j t:Nat} {want c:Bool} (hi:ops[i]? = some oi) (hr:Region.ready .any ops listed=[i]) (hS:St W M T n G D F a w) (hg:oi.guard=some (j,want)) (hj:(ops[j]?).bind (·.dst)=some t) (ht:lk G t=some (.bool c)) (hc:c=want)
  (h:po P oi a w (fun a' w'=>Hd mods i w w'∧qE P ops Q mods fuel (listed.setIfInBounds i true) a' w')):qE P ops Q mods (fuel+1) listed a w:=by
 refine⟨fun h=>(by rw [h] at hr; cases hr),fun k hk=>?_⟩;rw [hr,dq] at hk;subst hk;unfold wpOp;rw [hi];simp only;rw [if_pos (by rw [m5 hS hg hj ht,hc]; simp)];exact .inl (h _ _ fun a w h=>h)
theorem dm {mods:List (Nat×Tn)} {i j:Nat} {oi oj:Oper} {fuel:Nat} {listed:Array Bool} {a:Act} {w:World} (hi:ops[i]? = some oi) (hj:ops[j]? = some oj) (hr:Region.ready .any ops listed=[i,j]) (hg:oi.guard=none) (hg2:oj.guard=none)
  (h:po P oi a w (fun a' w'=>Hd mods i w w'∧qE P ops Q mods fuel (listed.setIfInBounds i true) a' w'))
  (h2:po P oj a w (fun a' w'=>Hd mods j w w'∧qE P ops Q mods fuel (listed.setIfInBounds j true) a' w')):qE P ops Q mods (fuel+1) listed a w:=by
 refine⟨fun h=>(by rw [h] at hr; cases hr),fun k hk=>?_⟩;rw [hr] at hk;simp only [dQ,mA,or_false] at hk;rcases hk with rfl | rfl
 ·unfold wpOp;rw [hi];simp only;rw [if_pos (by simp [Region.wanted,hg])];exact .inl (h _ _ fun a w h=>h)
 ·unfold wpOp;rw [hj];simp only;rw [if_pos (by simp [Region.wanted,hg2])];exact .inl (h2 _ _ fun a w h=>h)
theorem Bk {mods:List (Nat×Tn)} {listed:Array Bool} {a:Act} {w:World} (hr:Region.ready .any ops listed=[]) (h:Q .normal a w):∀ fuel,qE P ops Q mods fuel listed a w
 | 0=>⟨hr,h⟩
 | _+1=>⟨fun _=>h,fun i hi=>by rw [hr] at hi; cases hi⟩
theorem fA {mods:List (Nat×Tn)} {i:Nat} {w w':World} (h:Kt No w w'):Hd mods i w w':=h.no
theorem ij {mods:List (Nat×Tn)} {i:Nat} {w w':World} {e:Tn} {E:Nat→Prop} (hm:tB mods i=[e]) (h:Kt E w w') (he:∀ k,E k→Et e k):Hd mods i w w' :=
 h.mono fun k hk=>⟨e,by rw [hm]; exact dq.2 rfl,he k hk⟩
theorem rS {E:Nat→Prop}:∀ k,E k→Et .any k:=fun _ _=>trivial
theorem hU {b:Nat}:∀ k,k=b→Et (.blk (some b)) k:=fun _ h=>congrArg some h.symm
theorem gt {v:Value}:∀ k,v.ownBlock=some k→Et (.blk v.ownBlock) k:=fun _ h=>h
theorem lR {b N:Nat} (h:N≤b):∀ k,Et (.blk (some b)) k→Et (.new N) k:=fun k hk=>by
 have hk:some b=some k:=hk;injection hk with hk;subst hk; exact h
def Mu (mods:List (Nat×Tn)) (i:Nat) (e:Tn):List (Nat×Tn):=mods.map fun p=>if Nat.beq p.1 i then (i,e) else p
theorem CU {mods mods':List (Nat×Tn)} (h:∀ i k,Eo (tB mods' i) k→Eo (tB mods i) k):∀ (fuel:Nat) (listed:Array Bool) (a:Act) (w:World),qE P ops Q mods' fuel listed a w→qE P ops Q mods fuel listed a w
 | 0,_,_,_,H=>H
 | fuel+1,_,_,_,H=>⟨H.1,fun i hi=>wpOp_mono (fun a w h1=>⟨h1.1.mono (h i),CU h fuel _ a w h1.2⟩) (H.2 i hi)⟩
theorem cL {mods:List (Nat×Tn)} {fuel:Nat} {listed:Array Bool} {a:Act} {w:World} (i:Nat) (e e0:Tn) (hm:tB mods i=[e0]) (hs:∀ k,Et e k→Et e0 k) (H:qE P ops Q (Mu mods i e) fuel listed a w):qE P ops Q mods fuel listed a w:=by
 refine CU (fun j k hk=>?_) _ _ _ _ H;obtain⟨x,hx,hxk⟩:=hk;unfold tB at hx;obtain⟨p,hp,rfl⟩:=eS.1 hx;rw [gc] at hp;obtain⟨hp1,hp2⟩:=hp;unfold Mu at hp1;obtain⟨q,hq,rfl⟩:=eS.1 hp1;by_cases hqi:Nat.beq q.1 i=true
 ·rw [if_pos hqi] at hp2 hxk;have hij:i=j:=xI hp2;subst hij;exact⟨e0,by rw [hm]; exact dq.2 rfl,hs k hxk⟩
 ·rw [if_neg hqi] at hp2 hxk;exact⟨q.2,eS.2 ⟨q,gc.2 ⟨hq,hp2⟩,rfl⟩,hxk⟩
theorem Bl {id:Nat} {a:Act} {w:World} (mods:List (Nat×Tn)) (hm:P.follows .mixedOrders=true) (h:qE P ops Q mods ops.size (Array.replicate ops.size false) a w.drew):(Code.region id ops true).wp P Q a w :=
 wp_region_any hm (CT _ _ _ _ h)
end
section
variable {P:Program} {W:World} {M T E:Nat→Prop} {n:Nat} {G G':List (Nat×Value)} {D D':List cc} {F F':List bG} {a:Act} {w w':World} {ops:Array Oper} {Q:Exit→Act→World→Prop} {fuel:Nat} {listed:Array Bool} {mods:List (Nat×Tn)}
def Qp (Q:Exit→Act→World→Prop):Prop:=∀ c a d v w,Q (.panic c) (a.put d v) w→Q (.panic c) a w
theorem HA {id:Nat} {l:List Oper} {N:Nat} (mods:List (Nat×Tn)) (hS:St W M T n G D F a w) (hm:P.follows .mixedOrders=true) (hN:l.length=N) (hQ:Qp Q) (h:∀ w,Qp Q→St W M T n G D F a w→qE P l.toArray Q mods N (Array.replicate N false) a w):(Code.region id l.toArray true).wp P Q a w:=by
 refine Bl mods hm ?_;rw [List.size_toArray,hN];exact h _ hQ (hS.later (Kt.drew w))
theorem dy {l:List (Tn)} (i:Nat) {o:Oper} {v:Value} {d:Nat} (hi:ops[i]? = some o) (hs:Region.noSelect ops=true) (hf:Region.free .any ops listed i=true) (hr:(Region.ready .any ops listed).contains i=true) (hb:rem ops mods listed i=l) (hQ:Qp Q) (hS:St W M T n G D F a w) (h:Ye P o a (Eo l) w v) (hg:o.guard=none) (hd:o.dst=some d) (hn:Nat.blt d n=true)
  (k:∀ a,St W M T n ((d,v)::G) D F a w→qE P ops Q mods fuel (listed.setIfInBounds i true) a w):qE P ops Q mods (fuel+1) listed a w :=
 uJ hi hs hf hr hb (fun c a w=>hQ c a _ _ w) (.inl ⟨by simp [Region.wanted,hg],h⟩) (by rw [hd]; exact k _ (hS.put hn v))
theorem wO {l:List (Tn)} (i:Nat) {o:Oper} {v:Value} {d j t:Nat} {want c:Bool} (hi:ops[i]? = some o) (hs:Region.noSelect ops=true) (hf:Region.free .any ops listed i=true) (hr:(Region.ready .any ops listed).contains i=true) (hb:rem ops mods listed i=l) (hQ:Qp Q) (hS:St W M T n G D F a w) (h:Ye P o a (Eo l) w v) (hg:o.guard=some (j,want)) (hj:(ops[j]?).bind (·.dst)=some t) (ht:lk G t=some (.bool c)) (hc:c=want) (hd:o.dst=some d) (hn:Nat.blt d n=true)
  (k:∀ a,St W M T n ((d,v)::G) D F a w→qE P ops Q mods fuel (listed.setIfInBounds i true) a w):qE P ops Q mods (fuel+1) listed a w :=
 uJ hi hs hf hr hb (fun c a w=>hQ c a _ _ w) (.inl ⟨by rw [m5 hS hg hj ht,hc]; simp,h⟩) (by rw [hd]; exact k _ (hS.put hn v))
theorem ME (i:Nat) {o:Oper} {d j t:Nat} {want c:Bool} (hi:ops[i]? = some o) (hs:Region.noSelect ops=true) (hf:Region.free .any ops listed i=true) (hr:(Region.ready .any ops listed).contains i=true) (hQ:Qp Q) (hS:St W M T n G D F a w) (hg:o.guard=some (j,want)) (hj:(ops[j]?).bind (·.dst)=some t) (ht:lk G t=some (.bool c)) (hc:c = !want) (hd:o.dst=some d) (hn:Nat.blt d n=true)
  (k:∀ a,St W M T n ((d,undef)::G) D F a w→qE P ops Q mods fuel (listed.setIfInBounds i true) a w):qE P ops Q mods (fuel+1) listed a w :=
 uJ (v:=undef) hi hs hf hr rfl (fun c a w=>hQ c a _ _ w) (.inr ⟨by rw [m5 hS hg hj ht,hc]; cases want <;> simp,rfl⟩) (by rw [hd]; exact k _ (hS.put hn undef))
theorem Lx (i:Nat) {o:Oper} {d j t:Nat} {want:Bool} (hi:ops[i]? = some o) (hs:Region.noSelect ops=true) (hf:Region.free .any ops listed i=true) (hr:(Region.ready .any ops listed).contains i=true) (hQ:Qp Q) (hS:St W M T n G D F a w) (hg:o.guard=some (j,want)) (hj:(ops[j]?).bind (·.dst)=some t) (ht:lk G t=some undef) (hd:o.dst=some d) (hn:Nat.blt d n=true)
  (k:∀ a,St W M T n ((d,undef)::G) D F a w→qE P ops Q mods fuel (listed.setIfInBounds i true) a w):qE P ops Q mods (fuel+1) listed a w :=
 uJ (v:=undef) hi hs hf hr rfl (fun c a w=>hQ c a _ _ w) (.inr ⟨by
  have h1:=hS.slots t _ ht;unfold Region.wanted yielded;rw [hg];simp only [hj,aD,h1];rfl,rfl⟩) (by rw [hd]; exact k _ (hS.put hn undef))
theorem bn {k:Nat}:¬ Eo [] k:=fun ⟨_,h,_⟩=>by cases h
theorem Cv {k:Nat} {e:Tn} {l:List Tn} (h1:¬ Et e k) (h:¬ Eo l k):¬ Eo (e::l) k:=fun ⟨e,he,hk⟩=>by
 rcases dQ.1 he with rfl | he
 ·exact h1 hk
 ·exact h ⟨e,he,hk⟩
theorem gA {k:Nat} {l:List Tn} {o:Option Nat} {r r':cc} (hS:St W M T n G D F a w) (i:Nat) (hi:D[i]? = some r) (hr:r.dom k) (j:Nat) (hj:D[j]? = some r') (hd:r'.dom=fun k=>o=some k) (hij:i≠j) (h:¬ Eo l k):¬ Eo (.blk o::l) k:=Cv (fun hk=>by
 have hk:o=some k:=hk;obtain⟨l1,e1⟩:=bD.1 hi;obtain⟨l2,e2⟩:=bD.1 hj;rcases xH hij with hlt | hlt
 ·exact gw.1 hS.apart i j l1 l2 hlt k (by rw [e1]; exact hr) (by rw [e2,hd]; exact hk)
 ·exact gw.1 hS.apart j i l2 l1 hlt k (by rw [e2,hd]; exact hk) (by rw [e1]; exact hr)) h
def F4:cc→Option Nat
 | .box b _ _=>some b
 | .own v _ _ _=>v.ownBlock
 | .obj b _=>some b
 | .grp _=>none
def HF:cc→Bool
 | .grp _=>false
 | _=>true
theorem Eb {r:cc} (h:HF r=true) {k:Nat} (hk:r.dom k):F4 r=some k:=by cases r <;> first | exact hk | cases h
theorem Aq {r:cc} {k:Nat} (h:F4 r=some k):r.dom k:=by cases r <;> first | exact h | cases h
theorem As {D0:List cc} {l:List (Option Nat)} (h:D0.map F4=l) (hg:D0.all HF=true):∀ k,(∃ r∈D0,r.dom k)→Et (.bks l) k:=fun k ⟨r,hr,hk⟩=>by
 subst h;exact eS.2 ⟨r,hr,Eb (List.all_eq_true.1 hg r hr) hk⟩
theorem pQ {l:List (Option Nat)}:∀ k,(∃ r∈([]:List cc),r.dom k)→Et (.bks l) k:=fun k ⟨r,hr,_⟩=>by cases hr
theorem uT {k:Nat} {l:List Tn} {bs:List (Option Nat)} {r:cc} (hS:St W M T n G D F a w) (i:Nat) (hi:D[i]? = some r) (hr:r.dom k) (js:List Nat) (hl:(js.map fun j=>(D[j]?).bind F4)=bs) (hn:js.contains i=false) (h:¬ Eo l k):¬ Eo (.bks bs::l) k:=Cv (fun hk=>by
 subst hl;obtain⟨j,hj,e⟩:=eS.1 (show some k∈_ from hk);obtain⟨r',h1,h2⟩:=Option.bind_eq_some_iff.1 e;have hij:i≠j:=fun e=>by subst e; rw [List.contains_eq_mem,decide_eq_false_iff_not] at hn; exact hn hj
 obtain⟨l1,e1⟩:=bD.1 hi;obtain⟨l2,e2⟩:=bD.1 h1;rcases xH hij with hlt | hlt
 ·exact gw.1 hS.apart i j l1 l2 hlt k (by rw [e1]; exact hr) (by rw [e2]; exact Aq h2)
 ·exact gw.1 hS.apart j i l2 l1 hlt k (by rw [e2]; exact Aq h2) (by rw [e1]; exact hr)) h
theorem BO:∀ k,Eo [] k→dT T D k∨w.heap.size≤k:=fun _ ⟨_,h,_⟩=>by cases h
theorem Gh {e:Tn} {l:List Tn} (h1:∀ k,Et e k→dT T D k∨w.heap.size≤k) (h:∀ k,Eo l k→dT T D k∨w.heap.size≤k):∀ k,Eo (e::l) k→dT T D k∨w.heap.size≤k:=fun k ⟨e,he,hk⟩=>by
 rcases dQ.1 he with rfl | he
 ·exact h1 k hk
 ·exact h k ⟨e,he,hk⟩
theorem HC {l:List Tn} {o:Option Nat} {r':cc} (j:Nat) (hj:D[j]? = some r') (hd:r'.dom=fun k=>o=some k) (h:∀ k,Eo l k→dT T D k∨w.heap.size≤k):∀ k,Eo (.blk o::l) k→dT T D k∨w.heap.size≤k:=Gh (fun k hk=>.inl (.inr ⟨r',aH hj,by rw [hd]; exact hk⟩)) h
def Dc (N:Nat):bG:=⟨fun _ w=>N≤w.heap.size,fun h k _=>cH h k.size⟩
end
end
section
open Go.RowKit
variable {pos:String} {af:Array Edge} {g:Option (Nat×Bool)}
def pm {α:Type} (xs:List α) (lo hi:Int):Option (List α):=if 0≤lo∧lo≤hi∧hi≤xs.length then some ((xs.take hi.toNat).drop lo.toNat) else none
def bL (n:Nat):Bool:=Nat.ble n 4294967296
theorem Fh {n:Nat} (h:bL n=true):n≤4294967296:=oh h
def gd {α:Type} (b:Bool) (x:Option α):Option α:=cond b x none
theorem bm {α:Type} {b:Bool} {x:Option α} {y:α} (h:gd b x=some y):b=true∧x=some y:=by cases b with
 | true=>exact⟨rfl,h⟩
 | false=>cases h
theorem bd {α β:Type} {o:Option α} {k:α→Option β} {y:β} (h:o.bind k=some y):∃ u,o=some u∧k u=some y:=Option.bind_eq_some_iff.1 h
theorem ct {α:Type} {b:Bool} {x y:α} {r:α} (hb:b=true) (h:cond b x y=r):x=r:=by subst hb; exact h
theorem cf {α:Type} {b:Bool} {x y:α} {r:α} (hb:b=false) (h:cond b x y=r):y=r:=by subst hb; exact h
theorem Ed (b:Bool):b=true∨b=false:=by cases b <;> simp
theorem on:∀ u∈([]:ba),u.oneCell'=true:=fun u hu=>by cases hu
theorem oc {v:Value} {l:ba} (h:v.oneCell'=true) (k:∀ u∈l,u.oneCell'=true):∀ u∈v::l,u.oneCell'=true:=fun u hu=>by
 rcases dQ.1 hu with rfl | hu
 ·exact h
 ·exact k u hu
inductive Fl (S R:Type) where
 | go (s:S)
 | out (r:R)
def wV {S R:Type} (body:S→Option (Fl S R)):Nat→S→Option R
 | 0,_=>none
 | n+1,s=>match body s with
  | none=>none
  | some (.out r)=>some r
  | some (.go s')=>wV body n s'
theorem AE {S R:Type} {body:S→Option (Fl S R)}:∀ {n m:Nat} {s:S} {r q:R},wV body n s=some r→wV body m s=some q→r=q
 | 0,_,_,_,_,h,_=>by cases h
 | _,0,_,_,_,_,h=>by cases h
 | n+1,m+1,s,r,q,h,k=>by
  simp only [wV] at h k;cases hb:body s with
  | none=>rw [hb] at h; cases h
  | some f =>
   rw [hb] at h k;cases f with
   | out u=>simp only [cE] at h k; rw [← h,← k]
   | go u=>exact AE h k
open Classical in
noncomputable def loop {S R:Type} (body:S→Option (Fl S R)) (s:S):Option R:=if h:∃ r n,wV body n s=some r then some h.choose else none
theorem uf {S R:Type} {body:S→Option (Fl S R)} {s:S} {r:R}:loop body s=some r↔∃ n,wV body n s=some r:=by
 unfold loop;split
 ·rename_i h;obtain⟨n,hn⟩:=h.choose_spec;constructor
  ·intro e; simp only [cE] at e; rw [← e]; exact⟨n,hn⟩
  ·rintro⟨m,hm⟩; rw [AE hn hm]
 ·rename_i h;constructor
  ·intro e; cases e
  ·rintro⟨m,hm⟩; exact absurd ⟨r,m,hm⟩ h
theorem wq {S R:Type} {body:S→Option (Fl S R)} {s s':S} (h:body s=some (.go s')):loop body s=loop body s':=by
 apply Option.ext;intro r;rw [uf,uf];constructor
 ·rintro⟨n,hn⟩;cases n with
  | zero=>cases hn
  | succ n=>simp only [wV,h] at hn; exact⟨n,hn⟩
 ·rintro⟨n,hn⟩; exact⟨n+1,by simp only [wV,h]; exact hn⟩
theorem iA {S R:Type} {body:S→Option (Fl S R)} {s:S} {r:R} (h:body s=some (.out r)):loop body s=some r:=uf.2 ⟨1,by simp only [wV,h]⟩
section
variable {P:Program} {W:World} {M T E:Nat→Prop} {n:Nat} {G G':List (Nat×Value)} {D D':List cc} {F F':List bG} {a:Act} {w w':World} {K:Act→World→Prop} {Q:Exit→Act→World→Prop}
theorem bx {S R:Type} {c:Code} (body:S→Option (Fl S R)) (I:S→Act→World→Prop) {s0:S} {r:R} (hl:loop body s0=some r) (h0:I s0 a w)
  (round:∀ s a w f,I s a w→body s=some f→(∀ u,f = .out u→u=r)→c.wp P (Exit.then (fun a' w'=>∃ s',f = .go s'∧I s' a' w') Q) a w):(Code.loop c).wp P Q a w:=by
 obtain⟨N,hN⟩:=uf.1 hl;intro b k cs;have key:∀ N s a w,wV body N s=some r→I s a w→∃ e a' w',Q e a' w'∧Arrives P (lone (b.at a (.code c :: .inLoop c::k)) cs w) b k cs e a' w':=by
  intro N
  induction N with
  | zero=>intro s a w h; cases h
  | succ N ih =>
   intro s a w h hI;simp only [wV] at h;cases hb:body s with
   | none=>rw [hb] at h; cases h
   | some f =>
    rw [hb] at h;obtain⟨e,a₁,w₁,hq,harr⟩:=round s a w f hI hb (fun u hu=>by subst hu; simp only [cE] at h; exact h) b (.inLoop c::k) cs;cases e with
    | normal =>
     obtain⟨s',hf,hI'⟩:=hq;subst hf;obtain⟨e₂,a₂,w₂,hq₂,harr₂⟩:=ih s' a₁ w₁ h hI';exact⟨e₂,a₂,w₂,hq₂,.of_steps (Steps.trans harr (.one step_inLoop)) harr₂⟩
    | exit id=>exact⟨_,a₁,w₁,hq,.pass (x:=.inLoop c) rfl (fun _ _=>.inl (by simp)) harr⟩
    | goto l=>exact⟨_,a₁,w₁,hq,.pass (x:=.inLoop c) rfl (fun _ _=>.inl (by simp)) harr⟩
    | ret=>exact⟨_,a₁,w₁,hq,.pass (x:=.inLoop c) rfl (fun _ _=>.inl (by simp)) harr⟩
    | panic ch=>exact⟨_,a₁,w₁,hq,.pass (x:=.inLoop c) rfl (fun _ _=>.inl (by simp)) harr⟩
    | outgrown=>exact⟨_,a₁,w₁,hq,.pass (x:=.inLoop c) rfl (fun _ _=>.inl (by simp)) harr⟩
 obtain⟨e,a',w',hq,harr⟩:=key N s0 a w hN h0;exact⟨e,a',w',hq,.of_steps (.one step_loop) harr⟩
theorem aK {x y:Code} (J:Act→World→Prop) (h1:x.wp P (Exit.then J Q) a w) (h2:∀ a w,J a w→y.wp P Q a w):(Code.seq x y).wp P Q a w :=
 wp_seq (wp_mono h1 fun e a w h=>by cases e <;> first | exact h2 a w h | exact h)
theorem Mj {c:Operand} {x y:Code} {b:Bool} (hS:St W M T n G D F a w) (hc:ev G c=some (.bool b)) (hb:b=true) (h:x.wp P Q a w):(Code.cond c x y).wp P Q a w:=wp_cond_true (by rw [hS.ev hc,hb]) h
theorem KO {c:Operand} {x y:Code} {b:Bool} (hS:St W M T n G D F a w) (hc:ev G c=some (.bool b)) (hb:b=false) (h:y.wp P Q a w):(Code.cond c x y).wp P Q a w:=wp_cond_false (by rw [hS.ev hc,hb]) h
theorem B0 {id:Nat} {l:List Oper} (h:wpList P l.toArray Q l a w):(Code.region id l.toArray false).wp P Q a w:=wp_region_lit h
def sW (P:Program) (a:Act) (w:World):List ResultVar→ba→Prop
 | [],[]=>True
 | .tmp t::r,v::vs=>a.tmps.getD t undef=v∧sW P a w r vs
 | .cell c t::r,v::vs=>(∃ p,a.tmps.getD c undef = .pointer (some p)∧(loadVar t p).run P w = .ok v w)∧sW P a w r vs
 | _,_=>False
def IW:ba→Value
 | [v]=>v
 | vs=>.tuple vs.toArray
def Fm (tmps:Array Value):ResultVar→Sem Value
 | .tmp t=>pure (tmps.getD t undef)
 | .cell c t=>do loadVar t (← asAddr (tmps.getD c undef))
theorem zI:∀ {rs:List ResultVar} {vs:ba},sW P a w rs vs→(rs.mapM (Fm a.tmps)).run P w = .ok vs w
 | [],[],_=>by simp
 | [],v::vs,h=>h.elim
 | .tmp t::r,[],h=>h.elim
 | .cell c t::r,[],h=>h.elim
 | .tmp t::r,v::vs,h=>by
  obtain⟨h1,h2⟩:=h;have hA:(Fm a.tmps (.tmp t)).run P w = .ok v w:=by
   show (pure (a.tmps.getD t undef):Sem Value).run P w=_;rw [h1]; rfl
  rw [List.mapM_cons,Sem.run_bind,hA,Result.andThen_ok,Sem.run_bind,zI h2]; rfl
 | .cell c t::r,v::vs,h=>by
  obtain⟨⟨p,h0,h1⟩,h2⟩:=h;have hA:(Fm a.tmps (.cell c t)).run P w = .ok v w:=by
   unfold Fm;simp only;have:(asAddr (a.tmps.getD c undef)).run P w = .ok p w:=by rw [h0]; rfl
   rw [Sem.run_bind,this,Result.andThen_ok,h1]
  rw [List.mapM_cons,Sem.run_bind,hA,Result.andThen_ok,Sem.run_bind,zI h2]; rfl
theorem B4 (fn:Func) (tmps:Array Value):results fn tmps=(do
  let vs ← fn.results.mapM (Fm tmps)
  pure (if h:vs.size=1 then vs[0] else .tuple vs)):=rfl
theorem aG {fn:Func} {R:Value→World→Prop} {rs:List ResultVar} {vs:ba} (hS:St W M T n G D F a w) (hr:fn.results=rs.toArray) (h:sW P a w rs vs) (hR:R (IW vs) w):bodyPost P fn (Jk M W R) .ret a w:=by
 refine⟨hS.defers,IW vs,?_,IW vs,rfl,hS.base,hR⟩;have h1:=zI h;rw [B4,hr,Array.mapM_eq_mapM_toList,Sem.run_bind,Sem.run_map,h1];cases vs with
 | nil=>rfl
 | cons v r =>
  cases r with
  | nil=>rfl
  | cons u s =>
   show Sem.run P (pure (if h:(u::s).length+1=1 then _ else _)) w=_;rw [dif_neg (by simp)];rfl
theorem aF:sW P a w [] []:=trivial
theorem aw {t:Nat} {v:Value} {r:List ResultVar} {vs:ba} (hS:St W M T n G D F a w) (hv:lk G t=some v) (h:sW P a w r vs):sW P a w (.tmp t::r) (v::vs) :=
 ⟨by have:=hS.slots t v hv; simp [FP,this],h⟩
theorem bh {c:Nat} {t:TypeId} {b:Nat} {cs:ba} {bt:TypeId} {ag:Bool} {z:Nat} {r:List ResultVar} {vs:ba} (hS:St W M T n G D F a w) (hv:lk G c=some (.pointer (some ⟨b,0,none⟩))) (i:Nat) (hi:D[i]? = some (.box b cs bt)) (ht:mx P t=some (ag,z)) (hl:cs.length=z) (hz:ag=false→z=1) (h:sW P a w r vs):sW P a w (.cell c t::r) (bg ag cs::vs):=by
 have hr:w.heap[b]? = some (.cells cs.toArray bt (0,0)):=hS.own _ (aH hi);refine⟨⟨⟨b,0,none⟩,by have:=hS.slots c _ hv; simp [FP,this],?_⟩,h⟩;exact yM ht hl rfl hz w (fun j u hj=>by rw [cell_of_row _ _ _ _ _ _ hr,List.getElem?_toArray,sx]; exact hj)
theorem St.adds (h:St W M T n G D F a w) (k:Kt No w w'):∀ (rs:List cc),(∀ r∈rs,r.ok w'∧∀ k,r.dom k→w.heap.size≤k)→(rs.Pairwise fun r s=>∀ k,r.dom k→¬ s.dom k)→St W M T n G (rs++D) F a w'
 | [],_,_=>h.later k
 | r::rs,hr,hp=>by
  obtain⟨hp1,hp2⟩:=vt.1 hp;have ih:=St.adds h k rs (fun s hs=>hr s (tR _ hs)) hp2;obtain⟨q1,q2⟩:=hr r px;refine⟨ih.size,ih.defers,ih.slots,ih.base,?_,?_,?_,fun f hf=>f.keep (h.facts f hf) k.no (fun j hj=>?_),ih.tlt⟩
  ·intro s hs;rcases dQ.1 hs with rfl | hs
   ·exact q1
   ·exact ih.own s hs
  ·intro s hs j hj;rcases dQ.1 hs with rfl | hs
   ·have:=q2 j hj;refine⟨fun ht=>?_,.inr ?_⟩
    ·have:=h.tlt j ht; omega
    ·have:=h.base.size; omega
   ·exact ih.free s hs j hj
  ·refine vt.2 ⟨fun s hs j hj hj2=>?_,ih.apart⟩;rcases cg.1 hs with hs | hs
   ·exact hp1 s hs j hj hj2
   ·have:=q2 j hj;have:=cc.lt (h.own s hs) j hj2;omega
  ·rcases hj with hj | ⟨s,hs,hj⟩
   ·exact .inl (.inl hj)
   ·rcases dQ.1 hs with rfl | hs
    ·exact .inr (q2 j hj)
    ·rcases cg.1 hs with hs | hs
     ·exact .inr ((hr s (tR _ hs)).2 j hj)
     ·exact .inl (.inr ⟨s,hs,hj⟩)
theorem jj {w0:World} {r:cc} (h:r.ok w') (hf:∀ k,r.dom k→w0.heap.size≤k):∀ s∈[r],s.ok w'∧∀ k,s.dom k→w0.heap.size≤k:=fun s hs=>by
 rw [dq] at hs; subst hs; exact⟨h,hf⟩
theorem Jl {w0:World} {r s:cc} (h:r.ok w') (hf:∀ k,r.dom k→w0.heap.size≤k) (h2:s.ok w') (hf2:∀ k,s.dom k→w0.heap.size≤k):∀ q∈[r,s],q.ok w'∧∀ k,q.dom k→w0.heap.size≤k:=fun q hq=>by
 simp only [dQ,mA,or_false] at hq;rcases hq with rfl | rfl
 ·exact⟨h,hf⟩
 ·exact⟨h2,hf2⟩
theorem xa (r:cc):[r].Pairwise fun r s=>∀ k,r.dom k→¬ s.dom k:=I4 _ _
theorem M3 {r s:cc} (h:∀ k,r.dom k→¬ s.dom k):[r,s].Pairwise fun r s=>∀ k,r.dom k→¬ s.dom k:=by
 simp only [vt,dq,forall_eq,mA,false_implies,implies_true,vr,and_true];exact h
theorem ob {T:Nat→Prop} {D rs:List cc} (w:World):Nw (dT (dT T D) rs) (dT T (rs++D)) w:=fun k hk=>.inl (by
 rcases hk with hk | ⟨r,hr,hk⟩
 ·exact .inl (.inl hk)
 ·rcases cg.1 hr with hr | hr
  ·exact .inr ⟨r,hr,hk⟩
  ·exact .inl (.inr ⟨r,hr,hk⟩))
def z8 (F:List bG):List bG→Prop
 | []=>True
 | f::r=>(∃ i:Nat,F[i]? = some f)∧z8 F r
theorem z8.mem {F:List bG}:∀ {F':List bG},z8 F F'→∀ f∈F',f∈F
 | [],_,f,hf=>by cases hf
 | g::r,h,f,hf=>by
  rcases dQ.1 hf with rfl | hf
  ·obtain⟨⟨i,hi⟩,_⟩:=h; exact aH hi
  ·exact z8.mem h.2 f hf
def lL (D:List cc):List Nat→List cc→Prop
 | [],[]=>True
 | i::r,d::s=>D[i]? = some d∧lL D r s
 | _,_=>False
theorem lL.get {D:List cc}:∀ {is:List Nat} {D':List cc},lL D is D'→∀ d∈D',∃ i∈is,D[i]? = some d
 | [],[],_,d,hd=>by cases hd
 | [],_::_,h,_,_=>h.elim
 | _::_,[],h,_,_=>h.elim
 | i::r,e::s,h,d,hd=>by
  rcases dQ.1 hd with rfl | hd
  ·exact⟨i,px,h.1⟩
  ·obtain⟨j,hj,h2⟩:=lL.get h.2 d hd; exact⟨j,tR _ hj,h2⟩
theorem lL.pw {D:List cc} (hp:D.Pairwise fun r s=>∀ k,r.dom k→¬ s.dom k):∀ {is:List Nat} {D':List cc},lL D is D'→is.Nodup→D'.Pairwise fun r s=>∀ k,r.dom k→¬ s.dom k
 | [],[],_,_=>vr
 | [],_::_,h,_=>h.elim
 | _::_,[],h,_=>h.elim
 | i::r,e::s,h,hn=>by
  obtain⟨n1,n2⟩:=yW.1 hn;refine vt.2 ⟨fun d hd k hk hk2=>?_,lL.pw hp h.2 n2⟩;obtain⟨j,hj,h2⟩:=lL.get h.2 d hd;have hij:i≠j:=fun e=>n1 (e▸hj);obtain⟨l1,e1⟩:=bD.1 h.1;obtain⟨l2,e2⟩:=bD.1 h2;rcases xH hij with hlt | hlt
  ·exact gw.1 hp i j l1 l2 hlt k (by rw [e1]; exact hk) (by rw [e2]; exact hk2)
  ·exact gw.1 hp j i l2 l1 hlt k (by rw [e2]; exact hk2) (by rw [e1]; exact hk)
theorem St.meet (h:St W M T n G D F a w) (is:List Nat) (hn:is.Nodup) (hG:He G G') (hD:lL D is D') (hF:z8 F F'):St W M T n G' D' F' a w :=
 ((h.slot hG).sel hF.mem).res (fun r hr=>by obtain⟨i,_,hi⟩:=hD.get r hr; exact aH hi) (hD.pw h.apart hn)
theorem nt {b:Bool} (h:b=true):(!b)=false:=by rw [h]; rfl
theorem nf {b:Bool} (h:b=false):(!b)=true:=by rw [h]; rfl
def Fl.el {S R α:Type} (f:Fl S R) (g:S→α) (h:R→α):α:=match f with
 | .go s=>g s
 | .out r=>h r
theorem J0 {S R α:Type} {s:S} {g:S→α} {h:R→α} {r:α} (e:Fl.el (.go s) g h=r):g s=r:=e
theorem kv {S R α:Type} {s:R} {g:S→α} {h:R→α} {r:α} (e:Fl.el (.out s) g h=r):h s=r:=e
def aP (P:Program) (f:Nat):Bool:=match P.funcs[f]? with
 | some fn => !(fn.name == "runtime.NumGoroutine") && fn.body.isSome
 | none=>false
theorem Ee {f:Nat} (hf:aP P f=true) (args:Array Value) (w:World):(callFunc f args).run P w = .ok (.enter f args) w:=by
 unfold aP at hf;split at hf
 ·rename_i fn hfn;simp only [nX, sv] at hf;obtain⟨b, hb⟩ := Option.isSome_iff_exists.1 hf.2;have h1 : ¬ (fn.name == "runtime.NumGoroutine") = true := by rw [hf.1]; simp
  simp [callFunc,hfn,hb,h1];simpa using h1
 ·cases hf
theorem ud {o:Oper} {x:Operand} {args:Array Operand} {tys:Array TypeId} {f:Nat} {vs cap:ba} {R:Value→World→Prop} {M':Nat→Prop} (ho:o.op = .call { callee:=.value x,args:=args,argTypes:=tys }) (hS:St W M T n G D F a w) (hx:ev G x=some (.func (.func f) #[] cap.toArray)) (hf:aP P f=true) (hargs:evs G args.toList=some vs) (hc:a7 P M' f (vs++cap) w R)
  (k:∀ v w',Kt M' w w'→R v w'→K (a.put o.dst v) w'):po P o a w K:=fun K' Q hK=>by
 have h1:(args.map a.eval)=vs.toArray:=by
  apply Bv.1;rw [Array.toList_map,hS.evs hargs]
 have hr:(execOp a.eval o).run P w = .ok (.enter f (vs++cap).toArray) w:=by
  simp [execOp,ho,resolve,hS.ev hx,Deferred.ofValue,invoke,h1,Ee hf]
 unfold Oper.wp;rw [hr,Oper.upon_enter];exact Calls.mono hc fun e w' ⟨v,h1,h2,h3⟩=>by subst h1; exact hK _ _ (k v w' h2 h3)
theorem bz {d:Nat} {ty:TypeId} {args:Array Operand} {tys:Array TypeId} {f:Nat} {vs:ba} {R:Value→World→Prop} (hS:St W M T n G D F a w) (hf:aP P f=true) (hargs:evs G args.toList=some vs) (hn:Nat.blt d n=true) (hc:a7 P No f vs w R)
  (k:∀ v w',R v w'→∀ a,Kt No w w'→(∀ rs:List cc,(∀ r∈rs,r.ok w'∧∀ k,r.dom k→w.heap.size≤k)→(rs.Pairwise fun r s=>∀ k,r.dom k→¬ s.dom k)→St W M T n ((d,v)::G) (rs++D) F a w')→K a w'):po P ⟨some d,.call { callee:=.value (.func f),args:=args,argTypes:=tys },ty,pos,af,g⟩ a w K :=
 ud (cap:=[]) rfl hS rfl hf hargs (by rw [xG]; exact hc) fun v w' hk hr=>k v w' hr _ hk (fun rs h1 h2=>(hS.adds hk rs h1 h2).put hn v)
theorem qJ {d:Nat} {ty:TypeId} {x:Operand} {args:Array Operand} {tys:Array TypeId} {f:Nat} {vs cap:ba} {R:Value→World→Prop} (hS:St W M T n G D F a w) (hx:ev G x=some (.func (.func f) #[] cap.toArray)) (hf:aP P f=true) (hargs:evs G args.toList=some vs) (hn:Nat.blt d n=true) (hc:a7 P No f (vs++cap) w R)
  (k:∀ v w',R v w'→∀ a,Kt No w w'→(∀ rs:List cc,(∀ r∈rs,r.ok w'∧∀ k,r.dom k→w.heap.size≤k)→(rs.Pairwise fun r s=>∀ k,r.dom k→¬ s.dom k)→St W M T n ((d,v)::G) (rs++D) F a w')→K a w'):po P ⟨some d,.call { callee:=.value x,args:=args,argTypes:=tys },ty,pos,af,g⟩ a w K :=
 ud rfl hS hx hf hargs hc fun v w' hk hr=>k v w' hr _ hk (fun rs h1 h2=>(hS.adds hk rs h1 h2).put hn v)
theorem cj {d:Nat} {ty:TypeId} {args:Array Operand} {tys:Array TypeId} {f:Nat} {vs:ba} {R:Value→World→Prop} {b:Nat} {cs:ba} {bt:TypeId} (hS:St W M T n G D F a w) (hf:aP P f=true) (hargs:evs G args.toList=some vs) (hn:Nat.blt d n=true) (i:Nat) (hi:D[i]? = some (.box b cs bt)) (hc:a7 P (fun k=>k=b) f vs w R)
  (k:∀ v w',R v w'→Kt (fun k=>k=b) w w'→∃ cs',w'.heap[b]? = some (.cells cs'.toArray bt (0,0))∧∀ a,St W M T n ((d,v)::G) (D.set i (.box b cs' bt)) F a w'→K a w'):po P ⟨some d,.call { callee:=.value (.func f),args:=args,argTypes:=tys },ty,pos,af,g⟩ a w K :=
 ud (cap:=[]) rfl hS rfl hf hargs (by rw [xG]; exact hc) fun v w' hk hr=>by
  obtain⟨cs',h1,h2⟩:=k v w' hr hk;exact h2 _ ((hS.turn hi (hk.mono fun j hj=>by simp [cc.dom,hj]) (r':=.box b cs' bt) h1 (fun j hj=>.inl hj)).put hn v)
theorem pF {t e:TypeId} {z b o m c:Nat} {k:IntKind} {i:Int} (ht:kw P t=some e) {ag:Bool} (he:mx P e=some (ag,z)) (h0:0≤i) (h1:i<m) (w:World):(Instr.indexAt t (.slice (some ⟨b,o,none⟩) m c) (.int k i)).run P w = .ok (.pointer (some ⟨b,o+i.toNat*z,none⟩)) w:=by
 simp [Instr.indexAt,asIntOf,run_underlying (oT ht),h0,h1,nW he,kC]
theorem bu {α:Type} {R:aR α} {xs:List α} {x:α} {d:Nat} {t e ty:TypeId} {X Y:Operand} {v:Value} {k:IntKind} {i:Int} {ag:Bool} (hS:St W M T n G D F a w) (ht:kw P t=some e) (he:mx P e=some (ag,R.size)) (hX:ev G X=some v) (hY:ev G Y=some (.int k i)) (j:Nat) (hj:F[j]? = some (aL R v xs)) (hg:bk xs i=some x) (hn:Nat.blt d n=true)
  (K':∀ b o cs,R.rel (dT T D) w cs x→∀ a,St W M T n ((d,.pointer (some ⟨b,o,none⟩))::G) D (ji b o cs::F) a w→K a w):po P ⟨some d,.indexAddr t X Y,ty,pos,af,g⟩ a w K:=by
 obtain⟨b,o,c,rfl,_,cs,h1,h2⟩:=aC.get (hS.get j hj:aC R (dT T D) w v xs) hg;obtain⟨q1,q2,_⟩:=eU hg;have hr:(execOp a.eval ⟨some d,.indexAddr t X Y,ty,pos,af,g⟩).run P w = .ok (.value (.pointer (some ⟨b,o+i.toNat*R.size,none⟩))) w:=by simp [execOp,hS.ev hX,hS.ev hY,pF ht he q1 q2]
 exact uY hr (K' b _ cs h1 _ ((hS.put hn _).fact (ji b _ cs) h2))
theorem m6 {α:Type} {R:aR α} {xs:List α} {x:α} {e t:TypeId} {v:Value} {i:Int} {ag:Bool} (hS:St W M T n G D F a w) (ht:kw P t=some e) (he:mx P e=some (ag,R.size)) (j:Nat) (hj:F[j]? = some (aL R v xs)) (hg:bk xs i=some x) :
  ∃ b o cs,R.rel (dT T D) w cs x∧(∀ {E:Nat→Prop} {d:Option Nat} {ty:TypeId} {X Y:Operand} {pos:String} {af:Array Edge} {g:Option (Nat×Bool)} {k:IntKind},ev G X=some v→ev G Y=some (.int k i)→Ye P ⟨d,.indexAddr t X Y,ty,pos,af,g⟩ a E w (.pointer (some ⟨b,o,none⟩)))∧St W M T n G D (ji b o cs::F) a w:=by
 obtain⟨b,o,c,rfl,_,cs,h1,h2⟩:=aC.get (hS.get j hj:aC R (dT T D) w v xs) hg;obtain⟨q1,q2,_⟩:=eU hg;refine⟨b,_,cs,h1,fun hX hY=>Ye.of fun w=>by simp [execOp,hS.ev hX,hS.ev hY,pF ht he q1 q2],hS.fact (ji b _ cs) h2⟩
end
end
section
open Go.RowKit
variable {pos:String} {af:Array Edge} {g:Option (Nat×Bool)}
def Ar (P:Program) (t:TypeId):Option (TypeId×Nat×Nat):=match P.underlying t with
 | some (.slice e)=>match P.info? e with
  | some i=>match i.zero with
   | some z=>cond (Nat.beq z.cells.size i.size&&Nat.blt 0 i.size) (some (e,i.size,i.bytes)) none
   | none=>none
  | none=>none
 | _=>none
theorem zi {P:Program} {t e:TypeId} {sz bt:Nat} (h:Ar P t=some (e,sz,bt)):HS P t e sz bt:=by
 unfold Ar at h;split at h
 ·rename_i e' hu;split at h
  ·rename_i i hi;split at h
   ·rename_i z hz;cases hc:(Nat.beq z.cells.size i.size&&Nat.blt 0 i.size) with
    | false=>rw [hc] at h; cases h
    | true =>
     rw [hc] at h;simp only [cond_true,cE,xC] at h;obtain⟨rfl,rfl,rfl⟩:=h;simp only [nX] at hc;exact⟨hu,⟨i,z,hi,hz,rfl,rfl,xI hc.1⟩,oh hc.2⟩
   ·cases h
  ·cases h
 ·cases h
def LS (len size:Nat):List (Nat×Nat):=(List.range len).map fun i=>(i*size,size)
def Mi (zc:ba) (k:Nat):ba:=((Array.range k).map (zc.toArray[· % zc.toArray.size]!)).toList
section
variable {P:Program} {W:World} {M T E:Nat→Prop} {n:Nat} {G G':List (Nat×Value)} {D D':List cc} {F F':List bG} {a:Act} {w w':World} {K:Act→World→Prop} {Q:Exit→Act→World→Prop}
theorem bj {d:Nat} {t e ty:TypeId} {len:Nat} {ps:List (Nat×Operand)} {sz bt:Nat} {zs zl ws:ba} {us:List (ba)} {vs:List (Nat×Value)} (hS:St W M T n G D F a w) (he:Ar P t=some (e,sz,bt)) (hz:jh P e=some zs) (hzl:Mi zs (len*sz)=zl) (hv:evp G ps=some vs) (hcs:Cs vs us) (hf:yp (LS len sz) zl vs us=some ws) (hl:Nat.ble (len*sz) 1000=true) (hl0:Nat.blt 0 len=true) (hn:Nat.blt d n=true)
  (k:∀ b a w',Kt No w w'→St W M T n ((d,.slice (some ⟨b,0,none⟩) len len)::G) (.box b ws e::D) F a w'→K a w'):po P ⟨some d,.buildSlice t len ps.toArray,ty,pos,af,g⟩ a w K:=by
 obtain⟨ht,⟨i,z,hi,hz0,hsz,hby,hzc⟩,hpos⟩:=zi he;have hzz:z.cells.toList=zs:=by
  unfold jh at hz;rw [hi] at hz;simp only [hz0,cE] at hz;exact hz
 have h1:=oh hl;have h2:0<len:=oh hl0;have hfill:=zk (place:=fun i=>some (i*sz,sz)) (pl:=LS len sz) (fun i q hq=>by
  unfold LS at hq;rw [rH] at hq;cases hr:(List.range len)[i]? with
  | none=>rw [hr] at hq; cases hq
  | some j =>
   rw [hr] at hq;simp only [nZ,cE] at hq;have:=bD.1 hr;obtain⟨_,hj⟩:=this;simp only [List.getElem_range] at hj;subst hj; rw [← hq]) vs us zl ws hcs hf
 subst hsz;have hcells:((Array.range (len*i.size)).map (z.cells[· % z.cells.size]!))=zl.toArray:=by
  rw [← hzl]; unfold Mi; rw [← hzz]
 have hev:(ps.toArray.map (fun p=>(p.1,a.eval p.2))).toList=vs:=by rw [← hS.evp hv]; simp
 have hr:(Instr.buildSlice t len (ps.toArray.map (fun p=>(p.1,a.eval p.2)))).run P w = .ok (.slice (some ⟨w.heap.size,0,none⟩) len len) (w.alloc (.cells ws.toArray e)) :=
  run_buildSlice w t e len _ ws.toArray i z ht hi hz0 (by omega) (by have:=Nat.mul_pos h2 hpos; omega) (by rw [hcells,hev]; exact hfill)
 have hr2:(execOp a.eval ⟨some d,.buildSlice t len ps.toArray,ty,pos,af,g⟩).run P w = .ok (.value (.slice (some ⟨w.heap.size,0,none⟩) len len)) (w.alloc (.cells ws.toArray e)):=by
  show (do pure (Next.value (← Instr.buildSlice t len (ps.toArray.map fun p=>(p.1,a.eval p.2)))):Sem Next).run P w=_;rw [Sem.run_bind,hr]; rfl
 exact uY hr2 (k w.heap.size _ _ (Kt.alloc _ _) ((hS.alloc ws e).put hn _))
theorem St.lit {α:Type} {R:aR α} {b m:Nat} {us:ba} {e:TypeId} {xs:List α} (hS:St W M T n G D F a w) (i:Nat) (hi:D[i]? = some (.box b us e)) (hR:0<R.size) (hr:az R (dT T D) w us xs) (hm:m=xs.length) (hlim:Nat.ble m 1000=true):St W M T n G (D.set i (.own (.slice (some ⟨b,0,none⟩) m m) e R.size us)) (an R us xs::F) a w:=by
 have hok:=hS.own _ (aH hi);have h1:=oh hlim;subst hm;have h2:=hS.fact (an R us xs) hr;refine h2.turn hi (aj _ _) ⟨.inr ⟨b,0,xs.length,xs.length,us.toArray,rfl,hr.1,ez _,.of hok,cM _,by unfold maxLen; omega,by rw [sx,← hr.1]; simp,fun j u hu=>by rw [sx]; simpa using hu⟩,hR⟩ (fun j hj=>.inl hj)
theorem St.nilRow {α:Type} (R:aR α) (e:TypeId) (hR:0<R.size) (hS:St W M T n G D F a w):St W M T n G (.own (.slice none 0 0) e R.size []::D) (an R [] []::F) a w :=
 (hS.add (aj _ _) (.own (.slice none 0 0) e R.size []) ⟨lN.nil_ _ _ _ _,hR⟩ (fun k hk=>by simp [cc.dom,Value.ownBlock] at hk)).fact _ (az.nil_ _ _ _)
theorem FX {o:Oper} {s x:Operand} {t e:TypeId} {sz bt:Nat} {v:Value} {cl news:ba} {A:Option Addr} {m c:Nat} (ho:o.op = .call { callee:=.builtin .append,args:=#[s,x],argTypes:=#[t,t] }) (hS:St W M T n G D F a w) (he:Ar P t=some (e,sz,bt)) (hs:ev G s=some v) (hx:ev G x=some (.slice A m c)) (hown:lN w 0 e sz v cl) (hl:news.length=m*sz) (hat:At w A news) (h1:∀ u∈news,u.oneCell'=true) (hz:(cl.length+news.length)≤4294967296*sz) (hb:Nat.ble (sz*bt) 32768=true) (hbs:Nat.ble sz 32768=true)
  (k:∀ v' w',Kt (fun j=>v.ownBlock=some j) w w'→lN w' 0 e sz v' (cl++news)→(∀ j,v'.ownBlock=some j→v.ownBlock=some j∨w.heap.size≤j)→K (a.put o.dst v') w'):po P o a w K:=fun K' Q hK=>by
 have q1:=oh hb;have q2:=oh hbs;have q3:(cl.length+news.length)*bt≤4294967296*(sz*bt):=by rw [← Nat.mul_assoc]; exact mD _ hz
 exact yi w s x t ho e sz bt (zi he) 0 v cl (hS.ev hs) hown A m c news (hS.ev hx) hl hat h1 (by unfold maxLen; omega) (by omega) (ez _) fun v' w' h2 h3 h4=>hK _ _ (k v' w' (Kt.grown h3) h2 (fun j hj=>by
  rcases h4 with h4 | h4
  ·exact .inl (h4▸hj)
  ·rw [h4] at hj; injection hj with hj; exact .inr (by omega)))
theorem bB {α:Type} {R:aR α} {xs ys:List α} {d:Nat} {ty t e:TypeId} {s x:Operand} {bt:Nat} {v u:Value} {cl:ba} (hS:St W M T n G D F a w) (he:Ar P t=some (e,R.size,bt)) (hb:Nat.ble (R.size*bt) 32768=true) (hbs:Nat.ble R.size 32768=true) (hs:ev G s=some v) (hx:ev G x=some u) (i:Nat) (hi:D[i]? = some (.own v e R.size cl)) (p:Nat) (hp:F[p]? = some (an R cl xs)) (q:Nat) (hq:F[q]? = some (aL R u ys)) (hroom:bL (xs.length+ys.length)=true) (hn:Nat.blt d n=true)
  (k:∀ v' cl' a w',Kt (fun j=>v.ownBlock=some j) w w'→St W M T n ((d,v')::G) (D.set i (.own v' e R.size cl')) (an R cl' (xs++ys)::F) a w'→K a w'):po P ⟨some d,.call { callee:=.builtin .append,args:=#[s,x],argTypes:=#[t,t] },ty,pos,af,g⟩ a w K:=by
 obtain⟨hown,hsz⟩:=hS.own _ (aH hi);have hrow:az R (dT T D) w cl xs:=hS.get p hp;have hsl:aC R (dT T D) w u ys:=hS.get q hq;obtain⟨A,c,rfl,_⟩:=id hsl;obtain⟨_,cs,hat,hr⟩:=hsl.rows hsz;have h1:=Fh hroom;refine FX rfl hS he hs hx hown hr.1 hat (hr.cell hsz) (by rw [hrow.1,hr.1,← iM]; exact mD _ h1) hb hbs fun v' w' h2 h3 h4=>?_;have h5:=hS.fact (an R (cl++cs) (xs++ys)) (hrow.append hr);exact k v' (cl++cs) _ w' h2 ((h5.turn hi (r':=.own v' e R.size (cl++cs)) h2 ⟨h3,hsz⟩ h4).put hn v')
theorem yB (z:Array Value):∀ m:Nat,(madeCells z (m*z.size)).toList=(List.replicate m z.toList).flatten
 | 0=>by simp [madeCells]
 | m+1=>by
  have ih:=yB z m;have h1:∀ N,(madeCells z N).toList=(List.range N).map (fun k=>z[k % z.size]!):=fun N=>by simp [madeCells]
  rw [h1] at ih ⊢;rw [show (m+1)*z.size=z.size+m*z.size by rw [iM]; omega,List.range_add,vO,List.map_map,List.replicate_succ,List.flatten_cons,← ih];congr 1
  ·apply List.ext_getElem?;intro k;rw [rH];by_cases hk:k<z.size
   ·rw [List.getElem?_range hk,nZ,Nat.mod_eq_of_lt hk,getElem!_pos z k hk];simp [hk]
   ·rw [yY (by simpa using hk),yY (by simpa using hk)]; rfl
  ·apply List.map_congr_left;intro k _;simp only [Function.comp,Nat.add_mod_left]
theorem az.rep {α:Type} {R:aR α} {T:Nat→Prop} {w:World} {cs:ba} {x:α} (h:R.rel T w cs x):∀ m:Nat,az R T w (List.replicate m cs).flatten (List.replicate m x)
 | 0=>az.nil_ _ _ _
 | m+1=>by rw [List.replicate_succ,List.replicate_succ,List.flatten_cons]; exact (az.one_ h).append (az.rep h m)
theorem tM {isS:Bool} {len cap:Nat} {k1 k2:IntKind} {lo hi:Int} (h0:0≤lo) (h1:lo≤hi) (h2:hi≤len) (h3:len≤cap) (w:World) (olo ohi:Option Value) (hlo:olo=some (.int k1 lo)∨(olo=none∧lo=0)) (hhi:ohi=some (.int k2 hi)∨(ohi=none∧hi=len)):(Instr.sliceBounds isS len cap olo ohi none).run P w = .ok (lo.toNat,hi.toNat,cap) w:=by
 have a1:hi≤cap:=by omega
 have a2:0≤hi:=by omega
 have a3:lo≤(hi.toNat:Int):=by omega
 rcases hlo with rfl | ⟨rfl,rfl⟩ <;> rcases hhi with rfl | ⟨rfl,rfl⟩
 ·simp [Instr.sliceBounds,Instr.sliceBound,asIntOf,h0,a1,a2,a3];intro h;omega
 ·simp [Instr.sliceBounds,Instr.sliceBound,asIntOf,h0,h1]
 ·simp [Instr.sliceBounds,Instr.sliceBound,asIntOf,a1,a2]
 ·simp [Instr.sliceBounds]
theorem oH {α:Type} {xs ys:List α} {lo hi:Int} (h:pm xs lo hi=some ys):0≤lo∧lo≤hi∧hi≤xs.length∧ys=(xs.take hi.toNat).drop lo.toNat:=by
 unfold pm at h;split at h
 ·rename_i hc; injection h with h; exact⟨hc.1,hc.2.1,hc.2.2,h.symm⟩
 ·cases h
theorem aC.cut {α:Type} {R:aR α} {T:Nat→Prop} {A:Option Addr} {c l h:Nat} {xs:List α} (hs:aC R T w (.slice A xs.length c) xs) (h1:l≤h) (h2:h≤xs.length) (B:Option Addr) (hB:l<h→∀ b o,A=some ⟨b,o,none⟩→B=some ⟨b,o+l*R.size,none⟩):aC R T w (.slice B (h-l) (c-l)) ((xs.take h).drop l):=by
 obtain⟨A',c',e,q1,q2,q3⟩:=hs;injection e with e1 e2 e3;subst e1 e3;have hlen:((xs.take h).drop l).length=h-l:=by simp; omega
 refine⟨B,c-l,by rw [hlen],by omega,by omega,?_⟩;by_cases hlt:l<h
 ·rcases q3 with q3 | ⟨b,off,rfl,hc⟩
  ·subst q3; simp at h2; omega
  ·refine .inr ⟨b,off+l*R.size,hB hlt b off rfl,fun k x hx=>?_⟩;rw [sw,pn] at hx;split at hx
   ·obtain⟨cs,g1,g2⟩:=hc _ x hx;exact⟨cs,g1,by rwa [show off+l*R.size+k*R.size=off+(l+k)*R.size by rw [iM]; omega]⟩
   ·cases hx
 ·left;apply xJ; omega
theorem J4 {α:Type} {R:aR α} {xs ys:List α} {d:Nat} {t e ty:TypeId} {X:Operand} {olo ohi:Option Operand} {v:Value} {k1 k2:IntKind} {lo hi:Int} {ag:Bool} (hS:St W M T n G D F a w) (ht:kw P t=some e) (he:mx P e=some (ag,R.size)) (hX:ev G X=some v) (hlo:(∃ x,olo=some x∧ev G x=some (.int k1 lo))∨(olo=none∧lo=0)) (hhi:(∃ x,ohi=some x∧ev G x=some (.int k2 hi))∨(ohi=none∧hi=xs.length)) (j:Nat) (hj:F[j]? = some (aL R v xs)) (hg:pm xs lo hi=some ys) (hn:Nat.blt d n=true)
  (K':∀ v' a,St W M T n ((d,v')::G) D (aL R v' ys::F) a w→K a w):po P ⟨some d,.slice t X olo ohi none,ty,pos,af,g⟩ a w K:=by
 obtain⟨q1,q2,q3,rfl⟩:=oH hg;have hsl:aC R (dT T D) w v xs:=hS.get j hj;obtain⟨A,c,rfl,p1,p2⟩:=hsl.len;have hb:=tM (P:=P) (isS:=true) (k1:=k1) (k2:=k2) q1 q2 q3 p1 w (olo.map a.eval) (ohi.map a.eval)
  (by
    rcases hlo with⟨x,rfl,hx⟩|⟨rfl,rfl⟩
    ·exact .inl (by rw [nZ,hS.ev hx])
    ·exact .inr ⟨rfl,rfl⟩)
  (by
    rcases hhi with⟨x,rfl,hx⟩|⟨rfl,rfl⟩
    ·exact .inl (by rw [nZ,hS.ev hx])
    ·exact .inr ⟨rfl,rfl⟩)
 have hr:(execOp a.eval ⟨some d,.slice t X olo ohi none,ty,pos,af,g⟩).run P w = .ok (.value (.slice (if c=lo.toNat then A else A.map (·.add (lo.toNat*R.size))) (hi.toNat-lo.toNat) (c-lo.toNat))) w:=by
  have hx:=hS.ev hX;simp [execOp,Instr.sliceAt,Instr.slice,run_underlying (oT ht),hx,hb,nW he]
 refine uY hr (K' _ _ ((hS.put hn _).fact (aL R _ _) ?_));refine hsl.cut (by omega) (by omega) _ (fun hlt b o hA=>?_);rw [if_neg (by omega),hA];simp [kC]
end
end
section
open Go.RowKit
variable {pos:String} {af:Array Edge} {g:Option (Nat×Bool)}
def FT (D:List cc):List cc→Prop
 | []=>True
 | r::s=>(r.bare=true∨r∈D)∧FT D s
theorem FT.sub {T:Nat→Prop} {D:List cc}:∀ {rs:List cc},FT D rs→∀ k,dT T rs k→dT T D k
 | [],_,k,hk=>by
  rcases hk with hk | ⟨r,hr,_⟩
  ·exact .inl hk
  ·cases hr
 | r::s,h,k,hk=>by
  rcases Ct.1 hk with hk | hk
  ·exact FT.sub h.2 k hk
  ·rcases h.1 with h1 | h1
   ·exact absurd hk (cc.bare_no h1 k)
   ·exact .inr ⟨r,h1,hk⟩
def ge {α:Type} (R:aR α) (T:Nat→Prop) (W w:World) (rs:List cc) (e:TypeId) (v:Value) (cl:ba) (xs:List α):Prop :=
 lN w 0 e R.size v cl∧(∀ k,v.ownBlock=some k→W.heap.size≤k)∧az R (dT T rs) w cl xs
theorem aC.dn {α:Type} {R:aR α} {T:Nat→Prop} {w:World} {v:Value} {xs:List α} (h:aC R T w v xs):aC R (dT T []) w v xs :=
 h.sub fun k hk=>.inl (by rcases hk with hk | ⟨r,hr,_⟩; exact hk; cases hr)
theorem aC.up {α:Type} {R:aR α} {T:Nat→Prop} {D rs:List cc} {w:World} {v:Value} {xs:List α} (hi:FT D rs) (h:aC R (dT T D) w v xs):aC R (dT T rs) w v xs :=
 h.sub fun k hk=>.inl (hi.sub k hk)
theorem ge.sl {α:Type} {R:aR α} {T:Nat→Prop} {W w:World} {rs:List cc} {e:TypeId} {v:Value} {cl:ba} {xs:List α} (hs:0<R.size) (h:ge R T W w rs e v cl xs) (hT:∀ k,T k→k<W.heap.size):aC R T w v xs :=
 lN.rd hs h.1 (h.2.2.keep (aj _ _) fun k hk=>.inl (.inl hk)) fun k hk ht=>by have:=h.2.1 k hk; have:=hT k ht; omega
theorem fV {w:World} {B:Nat} {e:TypeId} {sz:Nat} {v:Value} {cl:ba} (h:lN w B e sz v cl):v.oneCell'=true:=by
 rcases h with⟨rfl,_⟩|⟨g,off,n,cap,cs,rfl,_⟩ <;> rfl
theorem qX {α:Type} (R:aR α) (T:Nat→Prop) (W w:World) (rs:List cc) (e:TypeId):ge R T W w rs e (.slice none 0 0) [] [] :=
 ⟨lN.nil_ _ _ _ _,fun k hk=>by simp [Value.ownBlock] at hk,az.nil_ _ _ _⟩
def zr (op:BinOp) (k:IntKind) (x y:Int):Int :=
 let a:=BitVec.ofInt k.bits x
 let b:=BitVec.ofInt k.bits y
 match op with
 | .and=>k.wrap (a &&& b).toNat
 | .or=>k.wrap (a ||| b).toNat
 | .xor=>k.wrap (a ^^^ b).toNat
 | _=>k.wrap (a &&& ~~~b).toNat
def Hg:BinOp→Bool
 | .and | .or | .xor | .andNot=>true
 | _=>false
section
variable {P:Program} {W:World} {M T E:Nat→Prop} {n:Nat} {G G':List (Nat×Value)} {D D' rs:List cc} {F F':List bG} {a:Act} {w w':World} {K:Act→World→Prop} {Q:Exit→Act→World→Prop}
theorem St.retOwn {α:Type} {R:aR α} {v:Value} {e:TypeId} {cl:ba} {xs:List α} (h:St W No T n G D F a w) (hi:FT D rs) (i:Nat) (hd:D[i]? = some (.own v e R.size cl)) (j:Nat) (hj:F[j]? = some (an R cl xs)):ge R T W w rs e v cl xs:=by
 have hm:=aH hd;exact⟨(h.own _ hm).1,fun k hk=>(h.free _ hm k hk).2.resolve_left fun h=>h,(h.get j hj:az R (dT T D) w cl xs).keep (aj _ _) fun k hk=>.inl (hi.sub k hk)⟩
theorem St.apart2 {v v2:Value} {e e2:TypeId} {sz sz2:Nat} {cl di:ba} (h:St W M T n G D F a w) (i:Nat) (hi:D[i]? = some (.own v e sz cl)) (j:Nat) (hj:D[j]? = some (.own v2 e2 sz2 di)) (hij:i≠j):∀ k,v.ownBlock=some k→v2.ownBlock≠some k:=by
 intro k hk hk2;obtain⟨l1,e1⟩:=bD.1 hi;obtain⟨l2,e2⟩:=bD.1 hj;rcases xH hij with hlt | hlt
 ·exact gw.1 h.apart i j l1 l2 hlt k (by rw [e1]; exact hk) (by rw [e2]; exact hk2)
 ·exact gw.1 h.apart j i l2 l1 hlt k (by rw [e2]; exact hk2) (by rw [e1]; exact hk)
theorem lL.mem {D rs:List cc} {is:List Nat} (h:lL D is rs):∀ r∈rs,r∈D:=fun r hr=>by
 obtain⟨i,_,hi⟩:=h.get r hr; exact aH hi
theorem I2 {d:Option Nat} {s t:TypeId} {x:Operand} {ty:TypeId} {k k' ks:IntKind} {p:Int} (hS:St W M T n G D F a w) (hx:ev G x=some (.int k p)) (hs:P.underlying s=some (.int ks)) (ht:P.underlying t=some (.int k')):Ye P ⟨d,.convert s t x,ty,pos,af,g⟩ a E w (.int k' (k'.wrap p)) :=
 Ye.of fun w=>by
  simp [execOp,hS.ev hx,convert,run_underlying hs,run_underlying ht,Conv.intToInt]
theorem JX {α:Type} {R:aR α} {xs ys:List α} {e t:TypeId} {v:Value} {lo hi:Int} {ag:Bool} (hS:St W M T n G D F a w) (ht:kw P t=some e) (he:mx P e=some (ag,R.size)) (j:Nat) (hj:F[j]? = some (aL R v xs)) (hg:pm xs lo hi=some ys) :
  ∃ v',(∀ {E:Nat→Prop} {d:Option Nat} {ty:TypeId} {X:Operand} {olo ohi:Option Operand} {pos:String} {af:Array Edge} {g:Option (Nat×Bool)} {k1 k2:IntKind},ev G X=some v→((∃ x,olo=some x∧ev G x=some (.int k1 lo))∨(olo=none∧lo=0))→((∃ x,ohi=some x∧ev G x=some (.int k2 hi))∨(ohi=none∧hi=xs.length))→Ye P ⟨d,.slice t X olo ohi none,ty,pos,af,g⟩ a E w v')∧St W M T n G D (aL R v' ys::F) a w:=by
 obtain⟨q1,q2,q3,rfl⟩:=oH hg;have hsl:aC R (dT T D) w v xs:=hS.get j hj;obtain⟨A,c,rfl,p1,p2⟩:=hsl.len;refine⟨.slice (if c=lo.toNat then A else A.map (·.add (lo.toNat*R.size))) (hi.toNat-lo.toNat) (c-lo.toNat),?_,hS.fact _ (hsl.cut (by omega) (by omega) _ (fun hlt b o hA=>?_))⟩
 ·intro E d ty X olo ohi pos af g k1 k2 hX hlo hhi;refine Ye.of fun w=>?_;have hb:=tM (P:=P) (isS:=true) (k1:=k1) (k2:=k2) q1 q2 q3 p1 w (olo.map a.eval) (ohi.map a.eval)
   (by
     rcases hlo with⟨x,rfl,hx⟩|⟨rfl,rfl⟩
     ·exact .inl (by rw [nZ,hS.ev hx])
     ·exact .inr ⟨rfl,rfl⟩)
   (by
     rcases hhi with⟨x,rfl,hx⟩|⟨rfl,rfl⟩
     ·exact .inl (by rw [nZ,hS.ev hx])
     ·exact .inr ⟨rfl,rfl⟩)
  simp [execOp,Instr.sliceAt,Instr.slice,run_underlying (oT ht),hS.ev hX,hb,nW he]
 ·rw [if_neg (by omega),hA];simp [kC]
theorem Kw {d:Option Nat} {x y:Operand} {tys:Array TypeId} {ty:TypeId} {k:IntKind} {p q:Int} (hS:St W M T n G D F a w) (hx:ev G x=some (.int k p)) (hy:ev G y=some (.int k q)):Ye P ⟨d,.call { callee:=.builtin .max,args:=#[x,y],argTypes:=tys },ty,pos,af,g⟩ a E w (.int k (max p q)) :=
 Ye.of fun w=>by
  have h:(if q>p then q else p)=max p q:=by rw [Int.max_def]; split <;> split <;> omega
  simp only [execOp,resolve,invoke,builtin,Sem.run_bind,Sem.run_pure,Result.andThen_ok,List.map_toArray,uL,xA,hS.ev hx,hS.ev hy,Builtin.max_,List.foldlM_cons,List.foldlM_nil,Builtin.max2,h]
theorem HN {d:Option Nat} {x y:Operand} {tys:Array TypeId} {ty:TypeId} {k:IntKind} {p q:Int} (hS:St W M T n G D F a w) (hx:ev G x=some (.int k p)) (hy:ev G y=some (.int k q)):Ye P ⟨d,.call { callee:=.builtin .min,args:=#[x,y],argTypes:=tys },ty,pos,af,g⟩ a E w (.int k (min p q)) :=
 Ye.of fun w=>by
  have h:(if q<p then q else p)=min p q:=by rw [Int.min_def]; split <;> split <;> omega
  simp only [execOp,resolve,invoke,builtin,Sem.run_bind,Sem.run_pure,Result.andThen_ok,List.map_toArray,uL,xA,hS.ev hx,hS.ev hy,Builtin.min_,List.foldlM_cons,List.foldlM_nil,Builtin.min2,h]
theorem I1 {d:Option Nat} {op:BinOp} {t t':TypeId} {x y:Operand} {ty:TypeId} {k:IntKind} {p q:Int} (hS:St W M T n G D F a w)
  (hx:ev G x=some (.int k p)) (hy:ev G y=some (.int k q)) (hv:Hg op=true):Ye P ⟨d,.binOp op t x y t',ty,pos,af,g⟩ a E w (.int k (zr op k p q)) :=
 Ye.of fun w=>by
  have h1:=hS.ev hx;have h2:=hS.ev hy;cases op <;> simp only [Hg,reduceCtorEq] at hv <;> simp [execOp,h1,h2,eqGuard,binOp,Op.intBits,zr]
end
end
section
open Go.RowKit
variable {pos:String} {af:Array Edge} {g:Option (Nat×Bool)}
theorem M2 {T:Nat→Prop} (w:World):Nw T (dT T []) w:=fun k hk=>.inl (by rcases hk with hk | ⟨r,hr,_⟩; exact hk; cases hr)
def Hc (er:Value) (b:Bool):Prop:=(b=false∧er = .nilIface)∨(b=true∧∃ t v,er = .iface t v)
section
variable {P:Program} {W:World} {M T E:Nat→Prop} {n:Nat} {G G':List (Nat×Value)} {D D' rs:List cc} {F F':List bG} {a:Act} {w w':World} {K:Act→World→Prop} {Q:Exit→Act→World→Prop}
theorem G8 {d:Option Nat} {t t':TypeId} {x:Operand} {ty:TypeId} {er:Value} {b:Bool} (hS:St W M T n G D F a w)
  (hx:ev G x=some er) (he:Hc er b) (ht:P.underlying t=some (.interface (P.methodsAt t))):Ye P ⟨d,.binOp .neq t x (.const .nilIface) t',ty,pos,af,g⟩ a E w (.bool b) :=
 Ye.of fun w=>by
  have h1:=hS.ev hx;have hc:a.eval (.const .nilIface) = .nilIface:=rfl;rcases he with⟨rfl,rfl⟩|⟨rfl,tt,vv,rfl⟩
  ·have h3:=run_equal_nil_nil (P:=P) w t ht;simp only [execOp,h1,hc,eqGuard,binOp];simp [h3]
  ·have h3:=run_equal_held_nil (P:=P) w t tt vv ht;simp only [execOp,h1,hc,eqGuard,binOp];simp [h3]
theorem zP {α:Type} {R:aR α} {xs:List α} {v:Value} {t e:TypeId} (hS:St W M T n G D F a w) (ht:kw P t=some e) (i:Nat) (hi:F[i]? = some (aL R v xs)) :
  ∃ b:Bool,(b=true→xs=[])∧(∀ {E:Nat→Prop} {d:Option Nat} {ty:TypeId} {x:Operand} {t':TypeId} {pos:String} {af:Array Edge} {g:Option (Nat×Bool)},ev G x=some v→Ye P ⟨d,.binOp .eql t x (.const (.slice none 0 0)) t',ty,pos,af,g⟩ a E w (.bool b))∧(∀ {E:Nat→Prop} {d:Option Nat} {ty:TypeId} {x:Operand} {t':TypeId} {pos:String} {af:Array Edge} {g:Option (Nat×Bool)},ev G x=some v→Ye P ⟨d,.binOp .neq t x (.const (.slice none 0 0)) t',ty,pos,af,g⟩ a E w (.bool !b)):=by
 obtain⟨A,c,rfl,h1,h2,h3⟩:aC R (dT T D) w v xs:=hS.get i hi;refine⟨A.isNone,fun hb=>?_,fun {E d ty x t' pos af g} hx=>Ye.of fun w=>?_,fun {E d ty x t' pos af g} hx=>Ye.of fun w=>?_⟩
 ·rcases h3 with h3 | ⟨b,off,rfl,_⟩
  ·exact h3
  ·cases hb
 ·have h4:=hS.ev hx;have hc:a.eval (.const (.slice none 0 0)) = .slice none 0 0:=rfl;have h5:=run_equal_slice_nil (P:=P) w t e A xs.length c (oT ht);simp only [execOp,h4,hc,eqGuard,binOp];simp [h5]
 ·have h4:=hS.ev hx;have hc:a.eval (.const (.slice none 0 0)) = .slice none 0 0:=rfl;have h5:=run_equal_slice_nil (P:=P) w t e A xs.length c (oT ht);simp only [execOp,h4,hc,eqGuard,binOp];simp [h5]
theorem uW {α:Type} (R:aR α) {d:Nat} {t e ty:TypeId} {bt:Nat} (hS:St W M T n G D F a w) (he:Ar P t=some (e,R.size,bt)) (hn:Nat.blt d n=true)
  (k:∀ v' a w',Kt No w w'→St W M T n ((d,v')::G) (.own v' e R.size []::D) (an R [] []::F) a w'→K a w'):po P ⟨some d,.buildSlice t 0 #[],ty,pos,af,g⟩ a w K:=by
 obtain⟨ht,⟨i,z,hi,hz0,hsz,hby,hzc⟩,hpos⟩:=zi he;have hr:(execOp a.eval ⟨some d,.buildSlice t 0 #[],ty,pos,af,g⟩).run P w = .ok (.value (.slice (some ⟨w.heap.size,0,none⟩) 0 0)) (w.alloc (.cells #[] e)):=by
  simp [execOp,Instr.buildSlice,run_underlying ht,sizeOf,typeInfo,hi,Instr.fill,newRow,Array.range_zero']
 have hown:lN (w.alloc (.cells #[] e)) 0 e R.size (.slice (some ⟨w.heap.size,0,none⟩) 0 0) []:=lN.made w 0 e R.size #[] 0 (ez _) (by simp) (ez _);have h2:=hS.fact (an R [] []) (az.nil_ _ _ _);exact uY hr (k _ _ _ (Kt.alloc _ _) ((h2.add (Kt.alloc _ _) (.own (.slice (some ⟨w.heap.size,0,none⟩) 0 0) e R.size []) ⟨hown,hpos⟩ (fun j hj=>by simp only [cc.dom,Value.ownBlock,cE] at hj; omega)).put hn _))
def FW (v:Value) (b o sz:Nat) (i:Int) (p:Nat):Prop:=∃ off m c,v = .slice (some ⟨b,off,none⟩) m c∧o=off+i.toNat*sz∧p=i.toNat*sz
theorem uj {v:Value} {b o sz p e:Nat} {i:Int} {sz2:Nat} {cl:ba} (h:FW v b o sz i p):(cc.own v e sz2 cl).dom b:=by obtain⟨off,m,c,rfl,_,_⟩:=h; rfl
theorem CI {α:Type} {R:aR α} {v:Value} {e:TypeId} {cl:ba} {xs:List α} {i:Int} {x:α} (hS:St W M T n G D F a w) (q:Nat) (hq:D[q]? = some (.own v e R.size cl)) (j:Nat) (hj:F[j]? = some (an R cl xs)) (hg:bk xs i=some x) :
  ∃ b off c,v = .slice (some ⟨b,off,none⟩) xs.length c∧∃ cs,R.rel (dT T D) w cs x∧(∀ k u,cs[k]? = some u→cl[i.toNat*R.size+k]? = some u):=by
 obtain⟨q1,q2,q3⟩:=eU hg;obtain⟨hown,hsz⟩:=hS.own _ (aH hq);have hrow:az R (dT T D) w cl xs:=hS.get j hj;obtain⟨cs,h1,h2⟩:=hrow.2 _ _ q3;rcases hown with⟨rfl,rfl⟩|⟨gb,off,m,cap,row,rfl,p1,p2,p3,p4,p5,p6,p7⟩
 ·have h0:xs.length*R.size=0:=hrow.1.symm;rcases Nat.mul_eq_zero.1 h0 with h | h <;> omega
 ·have hm:m=xs.length:=vQ hsz (p1.symm.trans hrow.1);subst hm;exact⟨gb,off,cap,rfl,cs,h1,h2⟩
theorem c7 {α:Type} {R:aR α} {xs:List α} {x:α} {d:Nat} {t e e' ty:TypeId} {X Y:Operand} {v:Value} {cl:ba} {k:IntKind} {i:Int} {ag:Bool} (hS:St W M T n G D F a w) (ht:kw P t=some e) (he:mx P e=some (ag,R.size)) (hX:ev G X=some v) (hY:ev G Y=some (.int k i)) (q:Nat) (hq:D[q]? = some (.own v e' R.size cl)) (j:Nat) (hj:F[j]? = some (an R cl xs)) (hg:bk xs i=some x) (hn:Nat.blt d n=true)
  (K':∀ b o p cs,R.rel (dT T D) w cs x→FW v b o R.size i p→(∀ k u,cs[k]? = some u→cl[p+k]? = some u)→∀ a,St W M T n ((d,.pointer (some ⟨b,o,none⟩))::G) D F a w→K a w):po P ⟨some d,.indexAddr t X Y,ty,pos,af,g⟩ a w K:=by
 obtain⟨b,off,c,rfl,cs,h1,h2⟩:=CI hS q hq j hj hg;obtain⟨q1,q2,_⟩:=eU hg;have hr:(execOp a.eval ⟨some d,.indexAddr t X Y,ty,pos,af,g⟩).run P w = .ok (.value (.pointer (some ⟨b,off+i.toNat*R.size,none⟩))) w:=by simp [execOp,hS.ev hX,hS.ev hY,pF ht he q1 q2]
 exact uY hr (K' b _ _ cs h1 ⟨off,_,_,rfl,rfl,rfl⟩ h2 _ (hS.put hn _))
theorem bP {α:Type} {R:aR α} {xs:List α} {x:α} {t e e':TypeId} {v:Value} {cl:ba} {i:Int} {ag:Bool} (hS:St W M T n G D F a w) (ht:kw P t=some e) (he:mx P e=some (ag,R.size)) (q:Nat) (hq:D[q]? = some (.own v e' R.size cl)) (j:Nat) (hj:F[j]? = some (an R cl xs)) (hg:bk xs i=some x) :
  ∃ b o p cs,R.rel (dT T D) w cs x∧FW v b o R.size i p∧(∀ k u,cs[k]? = some u→cl[p+k]? = some u)∧(∀ {E:Nat→Prop} {d:Option Nat} {ty:TypeId} {X Y:Operand} {pos:String} {af:Array Edge} {g:Option (Nat×Bool)} {k:IntKind},ev G X=some v→ev G Y=some (.int k i)→Ye P ⟨d,.indexAddr t X Y,ty,pos,af,g⟩ a E w (.pointer (some ⟨b,o,none⟩))):=by
 obtain⟨b,off,c,rfl,cs,h1,h2⟩:=CI hS q hq j hj hg;obtain⟨q1,q2,_⟩:=eU hg;exact⟨b,_,_,cs,h1,⟨off,_,_,rfl,rfl,rfl⟩,h2,fun hX hY=>Ye.of fun w=>by simp [execOp,hS.ev hX,hS.ev hY,pF ht he q1 q2]⟩
theorem bq {d:Option Nat} {t ty e:TypeId} {x:Operand} {ag:Bool} {z b o k p sz:Nat} {v:Value} {cl cs us:ba} {i:Int} (hS:St W M T n G D F a w) (ht:mx P t=some (ag,z)) (q:Nat) (hq:D[q]? = some (.own v e sz cl)) (ho:FW v b o sz i p) (hc:∀ k u,cs[k]? = some u→cl[p+k]? = some u) (hx:ev G x=some (.pointer (some ⟨b,o+k,none⟩))) (hE:¬ E b)
  (hu:(cs.drop k).take z=us) (hl:us.length=z) (hz:ag=false→z=1):Ye P ⟨d,.load t x,ty,pos,af,g⟩ a E w (bg ag us):=fun w' hk=>by
 obtain⟨hown,hsz⟩:=hS.own _ (aH hq);obtain⟨off,m,c,rfl,rfl,rfl⟩:=ho;rcases hown with⟨h,_⟩|⟨gb,off',m',cap,row,h,p1,p2,p3,p4,p5,p6,p7⟩
 ·cases h
 ·injection h with h1 h2 h3;injection h1 with h1;injection h1 with h1 h4;subst h1 h4;have hr':=p3.eqb (hk.block b p3.lt hE);have:=tN (P:=P) (b:=b) (o:=off+i.toNat*sz+k) ht hl hz w' (fun j u hj=>by
   rw [hr'.cell];rw [← hu,pn] at hj;split at hj
   ·rw [sw] at hj;have:=p7 _ u (hc _ u hj);rwa [show off+(i.toNat*sz+(k+j))=off+i.toNat*sz+k+j by omega] at this
   ·cases hj)
  simp [execOp,hS.ev hx,this]
theorem wc {t:TypeId} {ag:Bool} {z:Nat} (ht:mx P t=some (ag,z)) {b o:Nat} {row:Array Value} {e:TypeId} {v:Value} (hr:yk w b row e) (hz:v.cells.toList.length=z) (hl:o+z≤row.size) (h1:∀ u∈v.cells.toList,u.oneCell'=true) :
  ∃ row':Array Value,(Instr.storeAt t (.pointer (some ⟨b,o,none⟩)) v).run P w = .ok () (w.setCells b o v.cells.toList)∧yk (w.setCells b o v.cells.toList) b row' e∧row'.size=row.size∧∀ y,row'[y]? = if o≤y∧y<o+z then v.cells.toList[y-o]? else row[y]?:=by
 have h2:=run_storeCells_cells (P:=P) b o v.cells.toList 0 w (fun j hj=>by rw [qC,hr.cell,sB (by omega)]; rfl) (fun j hj=>by rw [qC]; exact hr.free (by omega)) h1;simp only [qC] at h2;have h3:v.cells.size=z:=by rw [← hz]; simp
 obtain⟨fz,hg0,hfz⟩:=id hr;obtain⟨row',c1,c2,c3,c4⟩:=mq b e fz v.cells.toList o w row hg0;refine⟨row',by simp [Instr.storeAt,Instr.sureAddr,storeVar,nW ht,h3,h2],⟨fz,c1,by rw [c2]; exact hfz⟩,c2,fun y=>?_⟩;by_cases hy:o≤y∧y<o+z
 ·rw [if_pos hy];have hj:y-o<v.cells.toList.length:=by omega
  have:=c4 (by omega) (y-o) _ (bC hj);rw [show o+(y-o)=y by omega] at this;rw [this,bC hj]
 ·rw [if_neg hy];exact c3 y (by omega)
theorem uD (cs us:ba) (o j:Nat) (hl:o+us.length≤cs.length):(kT cs o us)[j]? = if o≤j∧j<o+us.length then us[j-o]? else cs[j]?:=by
 unfold kT;rw [Bs,List.getElem?_append,il,zU (by omega)];by_cases h1:j<o
 ·rw [if_pos h1,pn,if_pos h1,if_neg (by omega)]
 ·rw [if_neg h1,List.getElem?_append];by_cases h2:j<o+us.length
  ·rw [if_pos (by omega),if_pos ⟨by omega,h2⟩]
  ·rw [if_neg (by omega),if_neg (by omega),sw];congr 1; omega
theorem fT {α:Type} {R:aR α} {xs:List α} {x x':α} {t ty e:TypeId} {X Y:Operand} {ag:Bool} {z b o k p:Nat} {v u:Value} {cl cs us:ba} {i:Int} (hS:St W M T n G D F a w) (hX:ev G X=some (.pointer (some ⟨b,o+k,none⟩))) (hY:ev G Y=some u) (hu:u.cells.toList=us) (ht:mx P t=some (ag,z)) (q:Nat) (hq:D[q]? = some (.own v e R.size cl)) (j:Nat) (hj:F[j]? = some (an R cl xs)) (ho:FW v b o R.size i p) (hc:∀ k u,cs[k]? = some u→cl[p+k]? = some u) (hg:bk xs i=some x) (hrel:R.rel (dT T D) w cs x)
  (hz:us.length=z) (hl:Nat.ble (k+z) cs.length=true) (hnew:R.rel (dT T D) w (kT cs k us) x')
  (K':∀ cl' w',Kt (fun j=>v.ownBlock=some j) w w'→St W M T n G (D.set q (.own v e R.size cl')) (an R cl' (xs.set i.toNat x')::F) a w'→K a w'):po P ⟨none,.store t X Y,ty,pos,af,g⟩ a w K:=by
 have hmem:=aH hq;obtain⟨hown,hsz⟩:=hS.own _ hmem;have hrow:az R (dT T D) w cl xs:=hS.get j hj;obtain⟨q1,q2,q3⟩:=eU hg;have hle:=oh hl;have hcl:=R.len hrel;obtain⟨off,m,c,rfl,rfl,rfl⟩:=ho;rcases hown with⟨h,_⟩|⟨gb,off',m',cap,row,h,p1,p2,p3,p4,p5,p6,p7⟩
 ·cases h
 ·injection h with h1 h2 h3;injection h1 with h1;injection h1 with h1 h4;subst h1 h4 h2 h3;have hm:m=xs.length:=vQ hsz (p1.symm.trans hrow.1);subst hm;have hlt:i.toNat<xs.length:=(bD.1 q3).1;have hin:i.toNat*R.size+R.size≤xs.length*R.size:=by
   have:(i.toNat+1)*R.size≤xs.length*R.size:=mD _ hlt;rw [iM] at this; omega
  have hcap:xs.length*R.size≤c*R.size:=mD _ p4;have hone:∀ y∈us,y.oneCell'=true:=by
   intro y hy;refine R.one hnew y ?_;unfold kT;exact gv _ (ol _ hy)
  subst hu;have hz2:u.cells.size=z:=by rw [← hz]; simp
  obtain⟨row',hst,hrow',hsz',hget⟩:=wc (P:=P) (o:=off+i.toNat*R.size+k) ht p3 hz (by omega) hone;have hk:Kt (fun j=>(Value.slice (some ⟨b,off,none⟩) xs.length c).ownBlock=some j) w (w.setCells b (off+i.toNat*R.size+k) u.cells.toList):=(Kt.setCells _ _ _ _).mono fun j h=>by rw [h]; rfl
  have hclen:=hrow.1;have hown':lN (w.setCells b (off+i.toNat*R.size+k) u.cells.toList) 0 e R.size (.slice (some ⟨b,off,none⟩) xs.length c) (kT cl (i.toNat*R.size+k) u.cells.toList):=by
   refine .inr ⟨b,off,xs.length,c,row',rfl,?_,ez _,hrow',p4,p5,by rw [hsz']; exact p6,fun y v hv=>?_⟩
   ·unfold kT; simp only [cW,il,rJ]; omega
   ·rw [uD _ _ _ _ (by omega)] at hv;rw [hget];by_cases hy:i.toNat*R.size+k≤y∧y<i.toNat*R.size+k+u.cells.toList.length
    ·rw [if_pos hy] at hv;rw [if_pos (by omega)];rw [show off+y-(off+i.toNat*R.size+k)=y-(i.toNat*R.size+k) by omega]; exact hv
    ·rw [if_neg hy] at hv;rw [if_neg (by omega)];exact p7 y v hv
  have hrows:az R (dT T D) w (kT cl (i.toNat*R.size+k) u.cells.toList) (xs.set i.toNat x'):=by
   refine⟨by unfold kT; simp only [cW,il,rJ,List.length_set]; omega,fun y z' hz'=>?_⟩;rw [rv] at hz';by_cases hy:i.toNat=y
   ·rw [if_pos hy,if_pos hlt] at hz';simp only [cE] at hz';subst hz' hy;refine⟨_,hnew,fun s v hv=>?_⟩;rw [uD _ _ _ _ (by omega)] at hv ⊢;by_cases hs:k≤s∧s<k+u.cells.toList.length
    ·rw [if_pos hs] at hv;rw [if_pos (by omega),show i.toNat*R.size+s-(i.toNat*R.size+k)=s-k by omega]; exact hv
    ·rw [if_neg hs] at hv;rw [if_neg (by omega)];exact hc s v hv
   ·rw [if_neg hy] at hz';obtain⟨ds,d1,d2⟩:=hrow.2 y z' hz';refine⟨ds,d1,fun s v hv=>?_⟩;have hsl:s<R.size:=by rw [← R.len d1]; exact (bD.1 hv).1
    rw [uD _ _ _ _ (by omega),if_neg]
    ·exact d2 s v hv
    ·rintro⟨r1,r2⟩;rcases xH hy with hlt2 | hlt2
     ·have:(i.toNat+1)*R.size≤y*R.size:=mD _ hlt2;rw [iM] at this; omega
     ·have:(y+1)*R.size≤i.toNat*R.size:=mD _ hlt2;rw [iM] at this; omega
  have hS2:=hS.fact (an R (kT cl (i.toNat*R.size+k) u.cells.toList) (xs.set i.toNat x')) hrows;refine AI (by simp [execOp,hS.ev hX,hS.ev hY,hst]) (K' (kT cl (i.toNat*R.size+k) u.cells.toList) _ hk ?_);exact hS2.turn hq hk (r':=.own (.slice (some ⟨b,off,none⟩) xs.length c) e R.size (kT cl (i.toNat*R.size+k) u.cells.toList)) ⟨hown',hsz⟩ (fun j hj=>.inl hj)
theorem nE {T:Nat→Prop} {D:List cc} {i:Nat} {r:cc} (hi:D[i]? = some r):∀ k,dT (dT T (D.eraseIdx i)) [r] k↔dT T D k:=by
 intro k;constructor
 ·rintro ((hk | ⟨s,hs,hk⟩) | ⟨s,hs,hk⟩)
  ·exact .inl hk
  ·exact .inr ⟨s,Cf hs,hk⟩
  ·rw [dq] at hs; subst hs; exact .inr ⟨s,aH hi,hk⟩
 ·rintro (hk | ⟨s,hs,hk⟩)
  ·exact .inl (.inl hk)
  ·obtain⟨j,hj,e⟩:=CX hs;by_cases hji:j=i
   ·subst hji;have:s=r:=by rw [← e]; exact (bD.1 hi).2
    subst this; exact .inr ⟨_,dq.2 rfl,hk⟩
   ·refine .inl (.inr ⟨s,?_,hk⟩);rw [gZ];rcases xH hji with h | h
    ·exact⟨j,by rw [tQ,if_pos h,← e]; exact bC hj⟩
    ·exact⟨j-1,by rw [tQ,if_neg (by omega),show j-1+1=j by omega,← e]; exact bC hj⟩
theorem St.notin {b:Nat} {cs:ba} {t:TypeId} (h:St W M T n G D F a w) (i:Nat) (hi:D[i]? = some (.box b cs t)):¬ dT T (D.eraseIdx i) b:=by
 rintro (hk | ⟨s,hs,hk⟩)
 ·exact (h.free _ (aH hi) b rfl).1 hk
 ·obtain⟨l1,e1⟩:=bD.1 hi;obtain⟨z,hz⟩:=gZ.1 hs;rw [tQ] at hz;split at hz
  ·rename_i hzi;have hzl:=(bD.1 hz).1;have:=gw.1 h.apart z i hzl l1 hzi b (by rw [(bD.1 hz).2]; exact hk);rw [e1] at this; exact this rfl
  ·have hzl:=(bD.1 hz).1;have:=gw.1 h.apart i (z+1) l1 hzl (by omega) b (by rw [e1]; rfl);rw [(bD.1 hz).2] at this; exact this hk
theorem aC.lent {α:Type} {R:aR α} {v:Value} {xs:List α} {i:Nat} {r:cc} (hi:D[i]? = some r) (h:aC R (dT T D) w v xs):aC R (dT (dT T (D.eraseIdx i)) [r]) w v xs :=
 h.sub fun k hk=>.inl ((nE hi k).1 hk)
theorem aC.back {α:Type} {R:aR α} {v:Value} {xs:List α} {i:Nat} {r r':cc} (hi:D[i]? = some r) (h:aC R (dT (dT T (D.eraseIdx i)) [r']) w v xs):aC R (dT T (D.set i r')) w v xs:=by
 refine h.sub fun k hk=>.inl ?_;have hl:=(bD.1 hi).1;have:=(nE (T:=T) (D:=D.set i r') (i:=i) (r:=r') (by rw [tg hl]) k).2 hk;rwa [List.eraseIdx_set_eq] at this
theorem St.boxRow {b:Nat} {cs:ba} {t:TypeId} (h:St W M T n G D F a w) (i:Nat) (hi:D[i]? = some (.box b cs t)):w.heap[b]? = some (.cells cs.toArray t (0,0)):=h.own _ (aH hi)
theorem St.boxNew {b:Nat} {cs:ba} {t:TypeId} (h:St W No T n G D F a w) (i:Nat) (hi:D[i]? = some (.box b cs t)):W.heap.size≤b:=(h.free _ (aH hi) b rfl).2.resolve_left fun h=>h
end
theorem qG {P:Program} {f:FuncId} {fn:Func} {c:Code} {args:ba} {w:World} {R:Value→World→Prop} (hf:P.funcs[f]? = some fn) (hb:fn.body=some c)
  (T:Nat→Prop) (n:Nat) (hn:fn.ntmps=n) (hT:∀ k,T k→k<w.heap.size) (hl:Nat.ble args.length n=true) {b:Nat} {cs:ba} {t:TypeId} (hrow:w.heap[b]? = some (.cells cs.toArray t (0,0))) (hTb:¬ T b)
  (h:∀ a,St w (fun k=>k=b) T n (kD 0 args) [.box b cs t] [] a w→c.wp P (bodyPost P fn (Jk (fun k=>k=b) w R)) a w):a7 P (fun k=>k=b) f args w R:=by
 refine calls_of_wp hf hb (h _ ?_);subst hn;have hS:=St.start w (fun k=>k=b) T fn.ntmps args hT (oh hl) (kD 0 args) fun t v hv=>by
  obtain⟨h1,h2⟩:=wm args 0 t v hv;simpa using h2
 exact⟨hS.size,hS.defers,hS.slots,hS.base,fun r hr=>by rw [dq] at hr; subst hr; exact hrow,fun r hr k hk=>by
  rw [dq] at hr; subst hr;simp only [cc.dom,cE] at hk;subst hk; exact⟨hTb,.inl rfl⟩,I4 _ _,fun f hf=>(by cases hf),hT⟩
section
variable {P:Program} {W:World} {M T:Nat→Prop} {n:Nat} {G:List (Nat×Value)} {D:List cc} {F:List bG} {a:Act} {w:World} {K:Act→World→Prop}
theorem St.retOwnm {α:Type} {R:aR α} {v:Value} {e b:Nat} {bt:TypeId} {cs:ba} {cl:ba} {xs:List α} {rs:List cc} (h:St W (fun k=>k=b) T n G D F a w) (hi:FT D rs) (i:Nat) (hd:D[i]? = some (.own v e R.size cl)) (j:Nat) (hj:F[j]? = some (an R cl xs)) (q:Nat) (hq:D[q]? = some (.box b cs bt)) (hne:i≠q):ge R T W w rs e v cl xs:=by
 have hm:=aH hd;refine⟨(h.own _ hm).1,fun k hk=>(h.free _ hm k hk).2.resolve_left fun h2=>?_,(h.get j hj:az R (dT T D) w cl xs).keep (aj _ _) fun k hk=>.inl (hi.sub k hk)⟩;exact gA (l:=[]) h i hd hk q hq rfl hne bn ⟨.blk (some b),dq.2 rfl,congrArg some h2.symm⟩
theorem St.turnAdds {w':World} (h:St W M T n G D F a w) {i:Nat} {r r':cc} (hi:D[i]? = some r) (k:Kt (fun j=>r.dom j) w w') (hr:r'.ok w') (hd:∀ j,r'.dom j→r.dom j)
  (rs:List cc) (h1:∀ r∈rs,r.ok w'∧∀ k,r.dom k→w.heap.size≤k) (h2:rs.Pairwise fun r s=>∀ k,r.dom k→¬ s.dom k):St W M T n G (rs++D.set i r') F a w':=by
 have hb:=h.turn hi k hr (fun j hj=>.inl (hd j hj));have hlt:∀ s∈D.set i r',∀ j,s.dom j→j<w.heap.size∧(dT T D) j:=fun s hs j hj=>by
  rcases List.mem_or_eq_of_mem_set hs with hs | rfl
  ·exact⟨cc.lt (h.own s hs) j hj,.inr ⟨s,hs,hj⟩⟩
  ·exact⟨cc.lt (h.own r (aH hi)) j (hd j hj),.inr ⟨r,aH hi,hd j hj⟩⟩
 refine⟨hb.size,hb.defers,hb.slots,hb.base,?_,?_,?_,fun f hf=>f.keep (h.facts f hf) (k.mono fun j hj=>.inr ⟨r,aH hi,hj⟩) (fun j hj=>?_),hb.tlt⟩
 ·intro s hs;rcases cg.1 hs with hs | hs
  ·exact (h1 s hs).1
  ·exact hb.own s hs
 ·intro s hs j hj;rcases cg.1 hs with hs | hs
  ·have:=(h1 s hs).2 j hj;refine⟨fun ht=>?_,.inr ?_⟩
   ·have:=h.tlt j ht; omega
   ·have:=h.base.size; omega
  ·exact hb.free s hs j hj
 ·refine ti.2 ⟨h2,hb.apart,fun s hs u hu j hj hj2=>?_⟩;have:=(h1 s hs).2 j hj;have:=(hlt u hu j hj2).1;omega
 ·rcases hj with hj | ⟨s,hs,hj⟩
  ·exact .inl (.inl hj)
  ·rcases cg.1 hs with hs | hs
   ·exact .inr ((h1 s hs).2 j hj)
   ·exact .inl (hlt s hs j hj).2
theorem Nw.back2 {i:Nat} {r r':cc} (hi:D[i]? = some r) (rs:List cc) (w:World):Nw (dT (dT T (D.eraseIdx i)) (rs++[r'])) (dT T (rs++D.set i r')) w:=fun k hk=>.inl (by
 rcases hk with hk | ⟨s,hs,hk⟩
 ·exact .inl (.inl hk)
 ·rcases cg.1 hs with hs | hs
  ·exact .inr ⟨s,cg.2 (.inl hs),hk⟩
  ·have hl:=(bD.1 hi).1;have:=(nE (T:=T) (D:=D.set i r') (i:=i) (r:=r') (by rw [tg hl]) k).2 (.inr ⟨s,hs,hk⟩);rw [List.eraseIdx_set_eq] at this;rcases this with this | ⟨u,hu,hk⟩
   ·exact .inl this
   ·exact .inr ⟨u,cg.2 (.inr hu),hk⟩)
theorem lS {d:Nat} {ty:TypeId} {args:Array Operand} {tys:Array TypeId} {f:Nat} {vs:ba} {R:Value→World→Prop} {b:Nat} {cs:ba} {bt:TypeId} (hS:St W M T n G D F a w) (hf:aP P f=true) (hargs:evs G args.toList=some vs) (hn:Nat.blt d n=true) (i:Nat) (hi:D[i]? = some (.box b cs bt)) (hc:a7 P (fun k=>k=b) f vs w R)
  (k:∀ v w',R v w'→Kt (fun k=>k=b) w w'→∃ cs' rs,w'.heap[b]? = some (.cells cs'.toArray bt (0,0))∧(∀ r∈rs,r.ok w'∧∀ k,r.dom k→w.heap.size≤k)∧(rs.Pairwise fun r s=>∀ k,r.dom k→¬ s.dom k)∧∀ a,St W M T n ((d,v)::G) (rs++D.set i (.box b cs' bt)) F a w'→K a w'):po P ⟨some d,.call { callee:=.value (.func f),args:=args,argTypes:=tys },ty,pos,af,g⟩ a w K :=
 ud (cap:=[]) rfl hS rfl hf hargs (by rw [xG]; exact hc) fun v w' hk hr=>by
  obtain⟨cs',rs,h1,h2,h3,h4⟩:=k v w' hr hk;exact h4 _ ((hS.turnAdds hi (hk.mono fun j hj=>by simp [cc.dom,hj]) (r':=.box b cs' bt) h1 (fun j hj=>hj) rs h2 h3).put hn v)
theorem az.cut {α:Type} {R:aR α} {T:Nat→Prop} {w:World} {cl:ba} {xs:List α} (h:az R T w cl xs) {l q:Nat} (h1:l≤q) (h2:q≤xs.length):az R T w ((cl.take (q*R.size)).drop (l*R.size)) ((xs.take q).drop l):=by
 obtain⟨a1,a2⟩:=h;have hq:q*R.size≤xs.length*R.size:=mD _ h2;refine⟨by simp only [rJ,il,a1]; rw [zU hq,zU h2,Nat.sub_mul],fun k x hx=>?_⟩;rw [sw,pn] at hx;split at hx
 ·rename_i hlt;obtain⟨cs,g1,g2⟩:=a2 _ x hx;refine⟨cs,g1,fun j u hu=>?_⟩;have hj:j<R.size:=by rw [← R.len g1]; exact (bD.1 hu).1
  have:=g2 j u hu;rw [sw,pn,if_pos]
  ·rwa [show l*R.size+(k*R.size+j)=(l+k)*R.size+j by rw [iM]; omega]
  ·have:(l+k+1)*R.size≤q*R.size:=mD _ (by omega);rw [iM,iM] at this;omega
 ·cases hx
theorem G1 {α:Type} {R:aR α} {xs:List α} {e:TypeId} {v:Value} {cl:ba} {lo hi:Nat} (hS:St W M T n G D F a w) (q:Nat) (hq:D[q]? = some (.own v e R.size cl)) (j:Nat) (hj:F[j]? = some (an R cl xs)) (h1:lo≤hi) (h2:hi≤xs.length) :
  ∃ A c,v = .slice A xs.length c∧xs.length≤c∧c≤maxLen∧St W M T n G (D.set q (.own (.slice (if c=lo then A else A.map (·.add (lo*R.size))) (hi-lo) (c-lo)) e R.size ((cl.take (hi*R.size)).drop (lo*R.size)))) (an R ((cl.take (hi*R.size)).drop (lo*R.size)) ((xs.take hi).drop lo)::F) a w:=by
 obtain⟨hown,hsz⟩:=hS.own _ (aH hq);have hrow:az R (dT T D) w cl xs:=hS.get j hj;have hcut:=hrow.cut h1 h2;rcases hown with⟨rfl,rfl⟩|⟨gb,off,m,cap,row,rfl,p1,p2,p3,p4,p5,p6,p7⟩
 ·have h0:xs.length=0:=by
   have:=hrow.1.symm;rcases Nat.mul_eq_zero.1 this with h | h
   ·exact h
   ·omega
  have e1:lo=0:=by omega
  have e2:hi=0:=by omega
  subst e1 e2;refine⟨none,0,by rw [h0],by omega,ez _,?_⟩;have hs:=(hS.fact (an R _ _) hcut).turn hq (w':=w) (aj _ _) (r':=.own (.slice none 0 0) e R.size []) ⟨.inl ⟨rfl,rfl⟩,hsz⟩ (fun k hk=>.inl hk);simpa using hs
 ·have hm:m=xs.length:=vQ hsz (p1.symm.trans hrow.1);subst hm;refine⟨some ⟨gb,off,none⟩,cap,rfl,p4,p5,?_⟩;refine (hS.fact (an R _ _) hcut).turn hq (w':=w) (aj _ _) ⟨?_,hsz⟩ (fun k hk=>.inl ?_)
  ·have hA:(if cap=lo then (some ⟨gb,off,none⟩:Option Addr) else (some (⟨gb,off,none⟩:Addr)).map (·.add (lo*R.size)))=some ⟨gb,if cap=lo then off else off+lo*R.size,none⟩:=by
    split <;> simp [kC]
   rw [hA];refine .inr ⟨gb,_,_,_,row,rfl,?_,p2,p3,by omega,by omega,?_,?_⟩
   ·have hq2:hi*R.size≤xs.length*R.size:=mD _ h2;simp only [rJ,il,p1]; rw [zU hq2,Nat.sub_mul]
   ·split
    ·rename_i hc; rw [hc,yU]; omega
    ·have hle:lo*R.size≤cap*R.size:=mD _ (by omega);rw [Nat.sub_mul]; omega
   ·intro k u hu;rw [sw,pn] at hu;split at hu
    ·rename_i hlt;have hne:¬ cap=lo:=fun hc=>by
      have:hi=lo:=by omega
      subst this; omega
     rw [if_neg hne];have:=p7 _ u hu;rwa [show off+(lo*R.size+k)=off+lo*R.size+k by omega] at this
    ·cases hu
  ·revert hk;simp only [cc.dom];split <;> simp [Value.ownBlock,kC]
theorem Hb {v:Value} {t e:TypeId} {A:Option Addr} {m c sz:Nat} {lo hi:Int} {ag:Bool} (hS:St W M T n G D F a w) (ht:kw P t=some e) (he:mx P e=some (ag,sz)) (q1:0≤lo) (q2:lo≤hi) (q3:hi≤m) (p1:m≤c) (hv:v = .slice A m c) {E:Nat→Prop} {d:Option Nat} {ty:TypeId} {X:Operand} {olo ohi:Option Operand} {k1 k2:IntKind} (hX:ev G X=some v) (hlo:(∃ x,olo=some x∧ev G x=some (.int k1 lo))∨(olo=none∧lo=0)) (hhi:(∃ x,ohi=some x∧ev G x=some (.int k2 hi))∨(ohi=none∧hi=m)) :
  Ye P ⟨d,.slice t X olo ohi none,ty,pos,af,g⟩ a E w (.slice (if c=lo.toNat then A else A.map (·.add (lo.toNat*sz))) (hi.toNat-lo.toNat) (c-lo.toNat)):=by
 subst hv;refine Ye.of fun w=>?_;have hb:=tM (P:=P) (isS:=true) (k1:=k1) (k2:=k2) q1 q2 q3 p1 w (olo.map a.eval) (ohi.map a.eval)
  (by
    rcases hlo with⟨x,rfl,hx⟩|⟨rfl,rfl⟩
    ·exact .inl (by rw [nZ,hS.ev hx])
    ·exact .inr ⟨rfl,rfl⟩)
  (by
    rcases hhi with⟨x,rfl,hx⟩|⟨rfl,rfl⟩
    ·exact .inl (by rw [nZ,hS.ev hx])
    ·exact .inr ⟨rfl,rfl⟩)
 simp [execOp,Instr.sliceAt,Instr.slice,run_underlying (oT ht),hS.ev hX,hb,nW he]
theorem Ie {α:Type} {R:aR α} {xs ys:List α} {e e' t:TypeId} {v:Value} {cl:ba} {lo hi:Int} {ag:Bool} (hS:St W M T n G D F a w) (ht:kw P t=some e) (he:mx P e=some (ag,R.size)) (q:Nat) (hq:D[q]? = some (.own v e' R.size cl)) (j:Nat) (hj:F[j]? = some (an R cl xs)) (hg:pm xs lo hi=some ys) :
  ∃ v' cl',(∀ {E:Nat→Prop} {d:Option Nat} {ty:TypeId} {X:Operand} {olo ohi:Option Operand} {pos:String} {af:Array Edge} {g:Option (Nat×Bool)} {k1 k2:IntKind},ev G X=some v→((∃ x,olo=some x∧ev G x=some (.int k1 lo))∨(olo=none∧lo=0))→((∃ x,ohi=some x∧ev G x=some (.int k2 hi))∨(ohi=none∧hi=xs.length))→Ye P ⟨d,.slice t X olo ohi none,ty,pos,af,g⟩ a E w v')∧St W M T n G (D.set q (.own v' e' R.size cl')) (an R cl' ys::F) a w:=by
 obtain⟨q1,q2,q3,rfl⟩:=oH hg;obtain⟨A,c,hv,h1,h2,hS'⟩:=G1 (lo:=lo.toNat) (hi:=hi.toNat) hS q hq j hj (by omega) (by omega);exact⟨_,_,fun hX hlo hhi=>Hb hS ht he q1 q2 q3 h1 hv hX hlo hhi,hS'⟩
theorem wL {α:Type} {R:aR α} {xs ys:List α} {e e' t:TypeId} {v:Value} {cl:ba} {lo hi:Int} {ag:Bool} (hS:St W M T n G D F a w) (ht:kw P t=some e) (he:mx P e=some (ag,R.size)) (q:Nat) (hq:D[q]? = some (.own v e' R.size cl)) (j:Nat) (hj:F[j]? = some (an R cl xs)) (hg:pm xs lo hi=some ys) :
  ∃ v',(∀ (T:Nat→Prop) (w:World),aC R T w v xs→aC R T w v' ys)∧(∀ {E:Nat→Prop} {d:Option Nat} {ty:TypeId} {X:Operand} {olo ohi:Option Operand} {pos:String} {af:Array Edge} {g:Option (Nat×Bool)} {k1 k2:IntKind},ev G X=some v→((∃ x,olo=some x∧ev G x=some (.int k1 lo))∨(olo=none∧lo=0))→((∃ x,ohi=some x∧ev G x=some (.int k2 hi))∨(ohi=none∧hi=xs.length))→Ye P ⟨d,.slice t X olo ohi none,ty,pos,af,g⟩ a E w v'):=by
 obtain⟨q1,q2,q3,rfl⟩:=oH hg;obtain⟨A,c,hv,h1,h2,hS'⟩:=G1 (lo:=lo.toNat) (hi:=hi.toNat) hS q hq j hj (by omega) (by omega);refine⟨_,fun T w h=>?_,fun hX hlo hhi=>Hb hS ht he q1 q2 q3 h1 hv hX hlo hhi⟩;subst hv;refine h.cut (by omega) (by omega) _ (fun hlt b o hA=>?_);rw [if_neg (by omega),hA];simp [kC]
theorem IK {α:Type} {R:aR α} {xs ys:List α} {d:Nat} {t e e' ty:TypeId} {X:Operand} {olo ohi:Option Operand} {v:Value} {cl:ba} {k1 k2:IntKind} {lo hi:Int} {ag:Bool} (hS:St W M T n G D F a w) (ht:kw P t=some e) (he:mx P e=some (ag,R.size)) (hX:ev G X=some v) (hlo:(∃ x,olo=some x∧ev G x=some (.int k1 lo))∨(olo=none∧lo=0)) (hhi:(∃ x,ohi=some x∧ev G x=some (.int k2 hi))∨(ohi=none∧hi=xs.length)) (q:Nat) (hq:D[q]? = some (.own v e' R.size cl)) (j:Nat) (hj:F[j]? = some (an R cl xs)) (hg:pm xs lo hi=some ys) (hn:Nat.blt d n=true)
  (K':∀ v' cl' a,St W M T n ((d,v')::G) (D.set q (.own v' e' R.size cl')) (an R cl' ys::F) a w→K a w):po P ⟨some d,.slice t X olo ohi none,ty,pos,af,g⟩ a w K:=by
 obtain⟨v',cl',hy,hS'⟩:=Ie hS ht he q hq j hj hg;exact ky hS' (hy hX hlo hhi) rfl hn fun a h=>K' _ _ a h
end
end
section
open Go.RowKit
variable {pos:String} {af:Array Edge} {g:Option (Nat×Bool)}
def bw {κ ν:Type} (RK:aR κ) (ak:Bool) (RV:aR ν) (av:Bool) (T:Nat→Prop) (w:World) (es:Array MapEntry) (xs:List (κ×ν)):Prop :=
 es.size=xs.length∧∀ (i:Nat) (e:MapEntry) (x:κ×ν),es[i]? = some e→xs[i]? = some x→(∃ c,RK.rel T w c x.1∧e.key=bg ak c)∧∃ c,RV.rel T w c x.2∧e.val=bg av c
theorem bw.keep {κ ν:Type} {RK:aR κ} {ak:Bool} {RV:aR ν} {av:Bool} {T T':Nat→Prop} {w w':World} {es:Array MapEntry} {xs:List (κ×ν)} (h:bw RK ak RV av T w es xs) (k:Kt T w w') (hn:Nw T T' w):bw RK ak RV av T' w' es xs :=
 ⟨h.1,fun i e x he hx=>by
  obtain⟨⟨c,h1,h2⟩,d,h3,h4⟩:=h.2 i e x he hx;exact⟨⟨c,RK.keep h1 k hn,h2⟩,d,RV.keep h3 k hn,h4⟩⟩
def nA {κ ν:Type} (RK:aR κ) (ak:Bool) (RV:aR ν) (av:Bool) (es:Array MapEntry) (xs:List (κ×ν)):bG:=⟨fun T w=>bw RK ak RV av T w es xs,fun h k n=>h.keep k n⟩
def qO {κ ν:Type} (q:κ→κ→Bool) (k:κ):List (κ×ν)→Option Nat
 | []=>none
 | x::r=>cond (q k x.1) (some 0) ((qO q k r).map (· + 1))
def cB {κ ν:Type} (q:κ→κ→Bool) (k:κ):List (κ×ν)→Option ν
 | []=>none
 | x::r=>cond (q k x.1) (some x.2) (cB q k r)
def de {κ ν:Type} (q:κ→κ→Bool) (k:κ) (v:ν):List (κ×ν)→List (κ×ν)
 | []=>[(k,v)]
 | x::r=>cond (q k x.1) ((k,v)::r) (x::de q k v r)
def pu {κ ν:Type} (q:κ→κ→Bool) (k:κ):List (κ×ν)→List (κ×ν)
 | []=>[]
 | x::r=>cond (q k x.1) r (x::pu q k r)
theorem oE {κ ν:Type} {q:κ→κ→Bool} {k:κ}:∀ {xs:List (κ×ν)},qO q k xs=none→cB q k xs=none∧(∀ v,de q k v xs=xs++[(k,v)])∧pu q k xs=xs
 | [],_=>⟨rfl,fun _=>rfl,rfl⟩
 | x::r,h=>by
  cases hq:q k x.1 with
  | true=>simp [qO,hq] at h
  | false =>
   simp only [qO,hq,cond_false,Option.map_eq_none_iff] at h;obtain⟨h1,h2,h3⟩:=oE h;exact⟨by simp [cB,hq,h1],fun v=>by simp [de,hq,h2],by simp [pu,hq,h3]⟩
theorem oF {κ ν:Type} {q:κ→κ→Bool} {k:κ}:∀ {xs:List (κ×ν)} {i:Nat},qO q k xs=some i→∃ x,xs[i]? = some x∧q k x.1=true∧cB q k xs=some x.2∧(∀ v,de q k v xs=xs.set i (k,v))∧pu q k xs=xs.eraseIdx i
 | [],i,h=>by simp [qO] at h
 | x::r,i,h=>by
  cases hq:q k x.1 with
  | true =>
   simp only [qO,hq,cond_true,cE] at h;subst h;exact⟨x,rfl,hq,by simp [cB,hq],fun v=>by simp [de,hq],by simp [pu,hq]⟩
  | false =>
   simp only [qO,hq,cond_false,C6] at h;obtain⟨j,h1,rfl⟩:=h;obtain⟨y,g1,g2,g3,g4,g5⟩:=oF h1;exact⟨y,by simpa using g1,g2,by simp [cB,hq,g3],fun v=>by simp [de,hq,g4],by simp [pu,hq,g5]⟩
structure uN {κ:Type} (P:Program) (t:TypeId) (RK:aR κ) (ak:Bool) (q:κ→κ→Bool):Prop where
 check:∀ (b:Bool) (T:Nat→Prop) (w0 w:World) (c:ba) (x:κ),RK.rel T w0 c x→(Instr.checkKey b 10000 t (bg ak c)).run P w = .ok () w
 eq:∀ (T T2:Nat→Prop) (w0 w1 w:World) (c d:ba) (x y:κ),RK.rel T w0 c x→RK.rel T2 w1 d y→(Op.equal t (bg ak c) (bg ak d)).run P w = .ok (q x y) w
 now:∃ kind,P.underlying t=some kind∧∀ (T T2:Nat→Prop) (w0 w1:World) (c d:ba) (x y:κ),RK.rel T w0 c x→RK.rel T2 w1 d y→Instr.sameNow kind (bg ak c) (bg ak d)=none∨Instr.sameNow kind (bg ak c) (bg ak d)=some (q x y)
 bits:∀ (T T2:Nat→Prop) (w0 w1:World) (c d:ba) (x y:κ),RK.rel T w0 c x→RK.rel T2 w1 d y→q x y=true→Instr.sameBits 10000 (bg ak d) (bg ak c)=true
def wh (es:List MapEntry) (i0:Nat):Option Nat→Option (Nat×Value)
 | none=>none
 | some j=>(es[j]?).map fun e=>(i0+j,e.val)
theorem Ac (e:MapEntry) (es:List MapEntry) (i0:Nat) (o:Option Nat):wh (e::es) i0 (o.map (· + 1))=wh es (i0+1) o:=by
 cases o with
 | none=>rfl
 | some j=>simp only [wh,nZ,yV]; rw [show i0+(j+1)=i0+1+j by omega]
section
variable {κ ν:Type} {P:Program} {t:TypeId} {RK:aR κ} {ak:Bool} {q:κ→κ→Bool} {T T2:Nat→Prop} {w0 w1:World} {c:ba} {k:κ}
theorem wB (hK:uN P t RK ak q) (hc:RK.rel T2 w1 c k) (w:World):∀ (es:List MapEntry) (xs:List (κ×ν)) (i0:Nat),es.length=xs.length→(∀ (i:Nat) (e:MapEntry) (x:κ×ν),es[i]? = some e→xs[i]? = some x→∃ c,RK.rel T w0 c x.1∧e.key=bg ak c)→(Instr.findAsking t (bg ak c) es i0).run P w = .ok (wh es i0 (qO q k xs)) w
 | [],[],i0,_,_=>rfl
 | [],_::_,i0,h,_=>by simp at h
 | _::_,[],i0,h,_=>by simp at h
 | e::es,x::xs,i0,h,hr=>by
  obtain⟨d,h1,h2⟩:=hr 0 e x rfl rfl;have he:=hK.eq _ _ _ _ w _ _ _ _ hc h1;have ih:=wB hK hc w es xs (i0+1) (by simpa using h) fun i e' x' a b=>hr (i+1) e' x' (by simpa using a) (by simpa using b);unfold Instr.findAsking;rw [h2,Sem.run_bind,he,Result.andThen_ok];unfold qO;cases hq:q k x.1 with
  | true=>simp [wh]
  | false =>
   rw [cond_false,Ac];simpa using ih
theorem CG (hK:uN P t RK ak q) (hc:RK.rel T2 w1 c k) {kind:TypeDesc} (hn:∀ (T T2:Nat→Prop) (w0 w1:World) (c d:ba) (x y:κ),RK.rel T w0 c x→RK.rel T2 w1 d y→Instr.sameNow kind (bg ak c) (bg ak d)=none∨Instr.sameNow kind (bg ak c) (bg ak d)=some (q x y)) :
  ∀ (es:List MapEntry) (xs:List (κ×ν)) (i0:Nat),es.length=xs.length→(∀ (i:Nat) (e:MapEntry) (x:κ×ν),es[i]? = some e→xs[i]? = some x→∃ c,RK.rel T w0 c x.1∧e.key=bg ak c)→Instr.findNow kind (bg ak c) es i0=none∨Instr.findNow kind (bg ak c) es i0=some (wh es i0 (qO q k xs))
 | [],[],i0,_,_=>.inr rfl
 | [],_::_,i0,h,_=>by simp at h
 | _::_,[],i0,h,_=>by simp at h
 | e::es,x::xs,i0,h,hr=>by
  obtain⟨d,h1,h2⟩:=hr 0 e x rfl rfl;have ih:=CG hK hc hn es xs (i0+1) (by simpa using h) fun i e' x' a b=>hr (i+1) e' x' (by simpa using a) (by simpa using b);unfold Instr.findNow;rw [h2];rcases hn _ _ _ _ _ _ _ _ hc h1 with h3 | h3
  ·rw [h3]; exact .inl rfl
  ·rw [h3];unfold qO;cases hq:q k x.1 with
   | true=>right; simp [wh]
   | false=>rw [cond_false,Ac]; exact ih
theorem oQ (hK:uN P t RK ak q) (hc:RK.rel T2 w1 c k) (w:World) {es:List MapEntry} {xs:List (κ×ν)} (h:es.length=xs.length) (hr:∀ (i:Nat) (e:MapEntry) (x:κ×ν),es[i]? = some e→xs[i]? = some x→∃ c,RK.rel T w0 c x.1∧e.key=bg ak c):(Instr.findKey t (bg ak c) es).run P w = .ok (wh es 0 (qO q k xs)) w:=by
 obtain⟨kind,hu,hn⟩:=hK.now;unfold Instr.findKey;rw [Sem.run_bind,run_underlying hu,Result.andThen_ok];rcases CG (T:=T) (w0:=w0) (ν:=ν) hK hc hn es xs 0 h hr with h3 | h3
 ·rw [h3]; exact wB hK hc w es xs 0 h hr
 ·rw [h3]; rfl
end
theorem tx {P:Program} {w:World} {r:Nat} {es:Array MapEntry} {clock:Nat} (hb:w.heap[r]? = some (.map es clock)):(getObj r).run P w = .ok (.map es clock) w:=by
 simp [getObj,Sem.run,hb]
theorem zJ {P:Program} {w:World} {r:Nat} {es:Array MapEntry} {clock:Nat} (o:Obj) (hb:w.heap[r]? = some (.map es clock)):(setObj r o).run P w = .ok () { w with heap:=w.heap.setIfInBounds r o }:=by
 simp [setObj,Sem.run,hb]
theorem pr {w:World} {r:Nat} {o o':Obj} (hb:w.heap[r]? = some o):(w.heap.setIfInBounds r o')[r]? = some o'∧∀ r',r'≠r→(w.heap.setIfInBounds r o')[r']? = w.heap[r']?:=by
 have hlt:r<w.heap.size:=(sA.1 hb).1;exact⟨by simp [hlt],fun r' hne=>by simp [Ne.symm hne]⟩
def DB (P:Program) (t:TypeId):Option (TypeId×TypeId):=match P.underlying t with
 | some (.map k e)=>some (k,e)
 | _=>none
theorem kW {P:Program} {t k e:TypeId} (h:DB P t=some (k,e)):P.underlying t=some (.map k e):=by
 unfold DB at h;split at h
 ·rename_i a b hu;simp only [cE,xC] at h;obtain⟨rfl,rfl⟩:=h;exact hu
 ·cases h
def HP (P:Program) (t:TypeId):Option Value:=match P.info? t with
 | some i=>i.zero
 | none=>none
theorem zV {P:Program} {t:TypeId} {z:Value} (h:HP P t=some z) (w:World):(zeroValue t).run P w = .ok z w:=by
 unfold HP at h;split at h
 ·rename_i i hi;simp [zeroValue,typeInfo,hi,h]
 ·cases h
section
variable {κ ν:Type} {P:Program} {W:World} {M T E:Nat→Prop} {n:Nat} {G G':List (Nat×Value)} {D D':List cc} {F F':List bG} {a:Act} {w w':World} {K:Act→World→Prop}
variable {kt et:TypeId} {RK:aR κ} {ak:Bool} {RV:aR ν} {av:Bool} {q:κ→κ→Bool} {b clock:Nat} {es:Array MapEntry} {xs:List (κ×ν)}
theorem St.mapOk (hS:St W M T n G D F a w) (j:Nat) (hj:F[j]? = some (nA RK ak RV av es xs)):bw RK ak RV av (dT T D) w es xs:=hS.get j hj
theorem sJ {T:Nat→Prop} {w:World} (h:bw RK ak RV av T w es xs):es.toList.length=xs.length∧∀ (i:Nat) (e:MapEntry) (x:κ×ν),es.toList[i]? = some e→xs[i]? = some x→∃ c,RK.rel T w c x.1∧e.key=bg ak c :=
 ⟨by simpa using h.1,fun i e x he hx=>(h.2 i e x (by simpa using he) hx).1⟩
theorem pC {d:Nat} {t ty:TypeId} (RK:aR κ) (ak:Bool) (RV:aR ν) (av:Bool) (hS:St W M T n G D F a w) (hn:Nat.blt d n=true)
  (k:∀ b,w.heap.size≤b→∀ a w',Kt No w w'→St W M T n ((d,.map (some b))::G) (.obj b (.map #[] 0)::D) (nA RK ak RV av #[] []::F) a w'→K a w'):po P ⟨some d,.makeMap t none,ty,pos,af,g⟩ a w K:=by
 have hr:(execOp a.eval ⟨some d,.makeMap t none,ty,pos,af,g⟩).run P w = .ok (.value (.map (some w.heap.size))) (w.alloc (.map #[] 0)):=by
  simp [execOp,Instr.makeMap]
 refine uY hr (k w.heap.size (cM _) _ _ (Kt.alloc _ _) ?_);exact ((hS.add (Kt.alloc _ _) (.obj w.heap.size (.map #[] 0)) (heap_alloc_new w _) (fun k hk=>by simp only [cc.dom,cE] at hk; omega)).fact (nA RK ak RV av #[] []) ⟨rfl,fun i e x he hx=>by simp at he⟩).put hn _
theorem AN {t:TypeId} (ht:DB P t=some (kt,et)) (hK:uN P kt RK ak q) {T T2:Nat→Prop} {w w0 w1:World} (hr:w.heap[b]? = some (.map es clock)) (hm:bw RK ak RV av T w0 es xs) {c:ba} {key:κ} (hc:RK.rel T2 w1 c key) {z:Value} {zc:ba} {z0:ν} (hz:HP P et=some z) (hzc:z=bg av zc) (hz0:RV.rel T w0 zc z0) :
  ∃ cv,RV.rel T w0 cv ((cB q key xs).getD z0)∧(∀ ok,(Instr.lookup t (.map (some b)) (bg ak c) ok).run P w = .ok (if ok then .tuple #[bg av cv,.bool (cB q key xs).isSome] else bg av cv) w)∧True:=by
 obtain⟨hl,hkeys⟩:=sJ hm;have hf:=oQ hK hc w hl hkeys;have hch:∀ e,(Instr.checkKey e 10000 kt (bg ak c)).run P w = .ok () w:=fun e=>hK.check e _ _ w _ _ hc;have hzr:=zV (P:=P) hz w;cases hp:qO q key xs with
 | none =>
  obtain⟨g1,_,_⟩:=oE hp;rw [hp] at hf;refine⟨zc,by rw [g1]; exact hz0,fun ok=>?_,trivial⟩;cases ok <;> simp [Instr.lookup,run_underlying (kW ht),tx hr,hch,hf,wh,hzr,hzc,g1]
 | some i =>
  obtain⟨x,hx,_,g1,_,_⟩:=oF hp;rw [hp] at hf;have hi:i<es.toList.length:=by rw [hl]; exact (bD.1 hx).1
  have he:es.toList[i]? = some es.toList[i]:=bC hi;obtain⟨_,cv,h3,h4⟩:=hm.2 i _ x (by rw [← Array.getElem?_toList]; exact he) hx;refine⟨cv,by rw [g1]; exact h3,fun ok=>?_,trivial⟩;have hat:wh es.toList 0 (some i)=some (i,es.toList[i].val):=by simp only [wh,he,nZ,sx]
  rw [hat] at hf;cases ok <;> simp only [Instr.lookup,Sem.run_bind,run_underlying (kW ht),Result.andThen_ok,tx hr,hch,hf,h4,g1,Sem.run_pure,Option.isSome_some,Bool.false_eq_true,if_false,if_true]
theorem Id {t:TypeId} (hS:St W M T n G D F a w) (ht:DB P t=some (kt,et)) (hK:uN P kt RK ak q) (i:Nat) (hi:D[i]? = some (.obj b (.map es clock))) (j:Nat) (hj:F[j]? = some (nA RK ak RV av es xs)) {c:ba} {key:κ} (hc:RK.rel (dT T D) w c key) {z:Value} {zc:ba} {z0:ν} (hz:HP P et=some z) (hzc:z=bg av zc) (hz0:RV.rel (dT T D) w zc z0) :
  ∃ cv,RV.rel (dT T D) w cv ((cB q key xs).getD z0)∧(∀ {E:Nat→Prop} {d:Option Nat} {X Y:Operand} {ok:Bool} {ty:TypeId} {pos:String} {af:Array Edge} {g:Option (Nat×Bool)},ev G X=some (.map (some b))→ev G Y=some (bg ak c)→¬ E b →
   Ye P ⟨d,.lookup t X Y ok,ty,pos,af,g⟩ a E w (if ok then .tuple #[bg av cv,.bool (cB q key xs).isSome] else bg av cv)):=by
 have hr:w.heap[b]? = some (.map es clock):=hS.own _ (aH hi);have hm:=hS.mapOk j hj;obtain⟨cv,h1,h2,_⟩:=AN (P:=P) ht hK hr hm hc hz hzc hz0;refine⟨cv,h1,fun hX hY hE w' hk=>?_⟩;have hr':=(hk.block b (sA.1 hr).1 hE).trans hr;obtain⟨cv2,h3,h4,_⟩:=AN (P:=P) ht hK hr' hm hc hz hzc hz0;have e1:=hS.ev hX;have e2:=hS.ev hY;have hrun:∀ ok,(Instr.lookup t (.map (some b)) (bg ak c) ok).run P w' = .ok (if ok then .tuple #[bg av cv,.bool (cB q key xs).isSome] else bg av cv) w':=fun ok=>by
  obtain⟨hl,hkeys⟩:=sJ hm;have a1:=h2 ok;have hf:=oQ hK hc w hl hkeys;have hf':=oQ hK hc w' hl hkeys;have hch:∀ e (w:World),(Instr.checkKey e 10000 kt (bg ak c)).run P w = .ok () w:=fun e w=>hK.check e _ _ w _ _ hc;have hzr:=zV (P:=P) hz;revert a1;cases hp:wh es.toList 0 (qO q key xs) with
  | none =>
   rw [hp] at hf hf';cases ok <;> simp [Instr.lookup,run_underlying (kW ht),tx hr,tx hr',hch,hf,hf',hzr]
  | some y =>
   rw [hp] at hf hf';cases ok <;> simp [Instr.lookup,run_underlying (kW ht),tx hr,tx hr',hch,hf,hf']
 simp [execOp,e1,e2,hrun]
theorem kd {t:TypeId} (hS:St W M T n G D F a w) (ht:DB P t=some (kt,et)) (hK:uN P kt RK ak q) (i:Nat) (hi:D[i]? = some (.obj b (.map es clock))) (j:Nat) (hj:F[j]? = some (nA RK ak RV av es xs)) {c:ba} {key:κ} (hc:RK.rel (dT T D) w c key) {z:Value} {zc:ba} {z0 u:ν} (hz:HP P et=some z) (hzc:z=bg av zc) (hz0:RV.rel (dT T D) w zc z0) (hu:some ((cB q key xs).getD z0)=some u) :
  ∃ cv,RV.rel (dT T D) w cv u∧(∀ {E:Nat→Prop} {d:Option Nat} {X Y:Operand} {ok:Bool} {ty:TypeId} {pos:String} {af:Array Edge} {g:Option (Nat×Bool)},ev G X=some (.map (some b))→ev G Y=some (bg ak c)→¬ E b →
   Ye P ⟨d,.lookup t X Y ok,ty,pos,af,g⟩ a E w (if ok then .tuple #[bg av cv,.bool (cB q key xs).isSome] else bg av cv)):=by
 obtain rfl:=bO hu;exact Id hS ht hK i hi j hj hc hz hzc hz0
theorem n8 {w:World} {b:Nat} {o o':Obj} (hr:w.heap[b]? = some o):Kt (fun k=>some b=some k) w { w with heap:=w.heap.setIfInBounds b o' } :=
 ⟨rfl,rfl,rfl,by simp,fun k _ hn=>(pr (o':=o') hr).2 k fun e=>hn (by rw [e])⟩
theorem wY {t ty:TypeId} {X Y Z:Operand} (hS:St W M T n G D F a w) (ht:DB P t=some (kt,et)) (hK:uN P kt RK ak q) (i:Nat) (hi:D[i]? = some (.obj b (.map es clock))) (j:Nat) (hj:F[j]? = some (nA RK ak RV av es xs))
  {c cv:ba} {key:κ} {val:ν} (hc:RK.rel (dT T D) w c key) (hv:RV.rel (dT T D) w cv val) (hX:ev G X=some (.map (some b))) (hY:ev G Y=some (bg ak c)) (hZ:ev G Z=some (bg av cv))
  (k:∀ es' ck' w',Kt (fun j=>j=b) w w'→St W M T n G (D.set i (.obj b (.map es' ck'))) (nA RK ak RV av es' (de q key val xs)::F) a w'→K a w'):po P ⟨none,.mapUpdate t X Y Z,ty,pos,af,g⟩ a w K:=by
 have hr:w.heap[b]? = some (.map es clock):=hS.own _ (aH hi);have hm:=hS.mapOk j hj;obtain⟨hl,hkeys⟩:=sJ hm;have hf:=oQ hK hc w hl hkeys;have hch:=hK.check false _ _ w _ _ hc;have fin:∀ es' ck',(Instr.mapUpdate t (.map (some b)) (bg ak c) (bg av cv)).run P w = .ok () { w with heap:=w.heap.setIfInBounds b (.map es' ck') }→bw RK ak RV av (dT T D) w es' (de q key val xs)→po P ⟨none,.mapUpdate t X Y Z,ty,pos,af,g⟩ a w K:=fun es' ck' hrun hok=>by
  refine AI (w':={ w with heap:=w.heap.setIfInBounds b (.map es' ck') }) (by simp [execOp,hS.ev hX,hS.ev hY,hS.ev hZ,hrun]) (k es' ck' _ ((n8 hr).mono fun j hj=>(bO hj).symm) ?_);exact (hS.fact (nA RK ak RV av es' _) hok).turn hi (n8 hr) (r':=.obj b (.map es' ck')) (pr hr).1 fun j hj=>.inl hj
 cases hp:qO q key xs with
 | none =>
  obtain⟨_,g2,_⟩:=oE hp;rw [hp] at hf;refine fin (es.push { key:=bg ak c,val:=bg av cv,born:=clock }) (clock+1) ?_ ⟨by rw [g2]; simp [hm.1],fun z e x he hx=>?_⟩
  ·simp [Instr.mapUpdate,run_underlying (kW ht),tx hr,hch,hf,wh,zJ _ hr]
  ·rw [g2] at hx;by_cases hz:z<xs.length
   ·rw [og hz] at hx;rw [FR (by rw [hm.1]; exact hz)] at he;exact hm.2 z e x (by rw [← he]; exact (sB _)) hx
   ·rw [qA (by omega)] at hx;obtain rfl:z=xs.length:=by
     rcases ik xs.length z with h | h
     ·rw [yY (by simp; omega)] at hx; cases hx
     ·omega
    simp at hx;subst hx;rw [← hm.1,zQ] at he;simp only [cE] at he;subst he;exact⟨⟨c,hc,rfl⟩,cv,hv,rfl⟩
 | some p =>
  obtain⟨x0,hx0,hq0,_,g2,_⟩:=oF hp;have hpi:p<es.size:=by rw [hm.1]; exact (bD.1 hx0).1
  have he0:es[p]? = some es[p]:=sB hpi;obtain⟨⟨d0,hd0,hk0⟩,_⟩:=hm.2 p _ x0 he0 hx0;have hbits:=hK.bits _ _ _ _ _ _ _ _ hc hd0 hq0;rw [hp] at hf;refine fin (es.modify p fun e=>{ e with key:=bg ak c,val:=bg av cv }) clock ?_ ⟨by rw [g2]; simp [hm.1],fun z e x he hx=>?_⟩
  ·have hat:wh es.toList 0 (some p)=some (p,es[p].val):=by simp [wh,he0]
   rw [hat] at hf;have hkt:(Instr.keyThatStays (((es[p]?).map (·.key)).getD (bg ak c)) (bg ak c)).run P w = .ok (bg ak c) w:=by
    rw [he0];simp only [nZ,vm,hk0,Instr.keyThatStays,hbits,if_true,Sem.run_pure]
   simp only [Instr.mapUpdate,Sem.run_bind,run_underlying (kW ht),Result.andThen_ok,tx hr,hch,hf,hkt,zJ _ hr]
  ·rw [g2] at hx;by_cases hz:p=z
   ·subst hz;rw [tg (by rw [← hm.1]; exact hpi)] at hx;simp only [cE] at hx;subst hx;rw [ss,if_pos rfl,he0] at he;simp only [nZ,cE] at he;subst he;exact⟨⟨c,hc,rfl⟩,cv,hv,rfl⟩
   ·rw [tl hz] at hx;rw [ss,if_neg hz] at he;exact hm.2 z e x he hx
end
end
section
open Go.RowKit
variable {pos:String} {af:Array Edge} {g:Option (Nat×Bool)}
def MD (D0:List cc):Nat→Prop:=fun k=>∃ r∈D0,r.dom k
structure tU (T:Nat→Prop) (w:World) (D0:List cc):Prop where
 own:∀ r∈D0,r.ok w
 free:∀ r∈D0,∀ k,r.dom k→¬ T k
 apart:D0.Pairwise fun r s=>∀ k,r.dom k→¬ s.dom k
structure lK (W w:World) (D0 rs:List cc):Prop where
 own:∀ r∈rs,r.ok w
 from_:∀ r∈rs,∀ k,r.dom k→MD D0 k∨W.heap.size≤k
 apart:rs.Pairwise fun r s=>∀ k,r.dom k→¬ s.dom k
theorem eL {P:Program} {f:FuncId} {fn:Func} {c:Code} {args:ba} {w:World} {R:Value→World→Prop} {D0:List cc} (hf:P.funcs[f]? = some fn) (hb:fn.body=some c)
  (T:Nat→Prop) (n:Nat) (hn:fn.ntmps=n) (hT:∀ k,T k→k<w.heap.size) (hl:Nat.ble args.length n=true) (hD:tU T w D0)
  (h:∀ a,St w (MD D0) T n (kD 0 args) D0 [] a w→c.wp P (bodyPost P fn (Jk (MD D0) w R)) a w):a7 P (MD D0) f args w R:=by
 refine calls_of_wp hf hb (h _ ?_);subst hn;have hS:=St.start w (MD D0) T fn.ntmps args hT (oh hl) (kD 0 args) fun t v hv=>by
  obtain⟨h1,h2⟩:=wm args 0 t v hv;simpa using h2
 exact⟨hS.size,hS.defers,hS.slots,hS.base,hD.own,fun r hr k hk=>⟨hD.free r hr k hk,.inl ⟨r,hr,hk⟩⟩,hD.apart,fun f hf=>(by cases hf),hT⟩
section
variable {P:Program} {W:World} {M T E:Nat→Prop} {n:Nat} {G G':List (Nat×Value)} {D D' D0 Dr rs:List cc} {F F':List bG} {a:Act} {w w':World} {K:Act→World→Prop}
theorem St.dnew (hS:St W (MD D0) T n G rs F a w):lK W w D0 rs:=⟨hS.own,fun r hr k hk=>(hS.free r hr k hk).2,hS.apart⟩
theorem St.reD (hS:St W M T n G D F a w) (is:List Nat) (hn:is.Nodup) (hd:lL D is D'):St W M T n G D' F a w :=
 hS.res (fun r hr=>hd.mem r hr) (hd.pw hS.apart hn)
theorem St.dok (hS:St W M T n G (D0++Dr) F a w):tU (dT T Dr) w D0:=by
 obtain⟨h1,h2,h3⟩:=ti.1 hS.apart;refine⟨fun r hr=>hS.own r (gv _ hr),fun r hr k hk ht=>?_,h1⟩;rcases ht with ht | ⟨s,hs,hk2⟩
 ·exact (hS.free r (gv _ hr) k hk).1 ht
 ·exact h3 r hr s hs k hk hk2
theorem Am:∀ k,dT (dT T Dr) D0 k↔dT T (D0++Dr) k:=fun k=>by
 unfold dT;constructor
 ·rintro ((h | ⟨r,hr,hk⟩) | ⟨r,hr,hk⟩)
  ·exact .inl h
  ·exact .inr ⟨r,ol _ hr,hk⟩
  ·exact .inr ⟨r,gv _ hr,hk⟩
 ·rintro (h | ⟨r,hr,hk⟩)
  ·exact .inl (.inl h)
  ·rcases cg.1 hr with hr | hr
   ·exact .inr ⟨r,hr,hk⟩
   ·exact .inl (.inr ⟨r,hr,hk⟩)
theorem St.getD (hS:St W M T n G (D0++Dr) F a w) (i:Nat) {f:bG} (hi:F[i]? = some f):f.p (dT (dT T Dr) D0) w :=
 f.keep (hS.get i hi) (aj _ _) fun k hk=>.inl ((Am k).1 hk)
theorem St.dltD (hS:St W M T n G (D0++Dr) F a w):∀ k,dT T Dr k→k<w.heap.size:=fun k hk=>hS.dlt k (by
 rcases hk with h | ⟨r,hr,h⟩
 ·exact .inl h
 ·exact .inr ⟨r,ol _ hr,h⟩)
theorem ap (w:World):Nw (dT (dT T Dr) rs) (dT T (rs++Dr)) w:=fun k hk=>.inl ((Am k).2 hk)
theorem St.swapD (hS:St W M T n G (D0++Dr) F a w) (hk:Kt (MD D0) w w') (hN:lK w w' D0 rs):St W M T n G (rs++Dr) F a w':=by
 obtain⟨h1,h2,h3⟩:=ti.1 hS.apart;have m0:∀ k,MD D0 k→¬ T k∧(M k∨W.heap.size≤k)∧dT T (D0++Dr) k∧k<w.heap.size:=fun k ⟨r,hr,hk⟩=>by
  have:=hS.free r (gv _ hr) k hk;exact⟨this.1,this.2,.inr ⟨r,gv _ hr,hk⟩,cc.lt (hS.own r (gv _ hr)) k hk⟩
 have hr0:∀ s∈Dr,∀ k,s.dom k→¬ MD D0 k∧k<w.heap.size:=fun s hs k hk=>⟨fun ⟨r,hr,hk2⟩=>h3 r hr s hs k hk2 hk,cc.lt (hS.own s (ol _ hs)) k hk⟩;have hsz:=hS.base.size;refine⟨hS.size,hS.defers,hS.slots,hS.base.step hk fun k h=>(m0 k h).2.1,fun r hr=>?_,fun r hr k hkd=>?_,ti.2 ⟨hN.apart,h2,fun r hr s hs k hkr hks=>?_⟩,fun f hf=>f.keep (hS.facts f hf) (hk.mono fun k h=>(m0 k h).2.2.1) fun k hkd=>?_,fun k h=>xF (hS.tlt k h) hk.size⟩
 ·rcases cg.1 hr with hr | hr
  ·exact hN.own r hr
  ·exact cc.keep (hS.own r (ol _ hr)) fun k hkd=>hk.block k (hr0 r hr k hkd).2 (hr0 r hr k hkd).1
 ·rcases cg.1 hr with hr | hr
  ·rcases hN.from_ r hr k hkd with h | h
   ·exact⟨(m0 k h).1,(m0 k h).2.1⟩
   ·exact⟨fun ht=>by have:=hS.tlt k ht; omega,.inr (by omega)⟩
  ·exact hS.free r (ol _ hr) k hkd
 ·have h4:=hr0 s hs k hks;rcases hN.from_ r hr k hkr with h | h
  ·exact h4.1 h
  ·omega
 ·rcases hkd with h | ⟨r,hr,hkd⟩
  ·exact .inl (.inl h)
  ·rcases cg.1 hr with hr | hr
   ·rcases hN.from_ r hr k hkd with h | h
    ·exact .inl (m0 k h).2.2.1
    ·exact .inr h
   ·exact .inl (.inr ⟨r,ol _ hr,hkd⟩)
theorem bv {d:Nat} {ty:TypeId} {args:Array Operand} {tys:Array TypeId} {f:Nat} {vs:ba} {R:Value→World→Prop} (hS:St W M T n G (D0++Dr) F a w) (hf:aP P f=true) (hargs:evs G args.toList=some vs) (hn:Nat.blt d n=true) (hc:a7 P (MD D0) f vs w R)
  (k:∀ v w',R v w'→∀ a,Kt (MD D0) w w'→(∀ rs,lK w w' D0 rs→St W M T n ((d,v)::G) (rs++Dr) F a w')→K a w'):po P ⟨some d,.call { callee:=.value (.func f),args:=args,argTypes:=tys },ty,pos,af,g⟩ a w K :=
 ud (cap:=[]) rfl hS rfl hf hargs (by rw [xG]; exact hc) fun v w' hk hr=>k v w' hr _ hk (fun rs h=>(hS.swapD hk h).put hn v)
end
end
section
open Go.RowKit
variable {pos:String} {af:Array Edge} {g:Option (Nat×Bool)}
def fy (k:IntKind) (x n:Int):Int:=x.fdiv (2 ^ (min n.toNat k.bits))
section
variable {P:Program}
end
section
variable {P:Program} {W:World} {M T E:Nat→Prop} {n:Nat} {G G':List (Nat×Value)} {D D':List cc} {F F':List bG} {a:Act} {w w':World} {K:Act→World→Prop}
theorem CV {d:Option Nat} {t t':TypeId} {x y:Operand} {ty:TypeId} {k k':IntKind} {p q:Int} (hS:St W M T n G D F a w) (hx:ev G x=some (.int k p)) (hy:ev G y=some (.int k' q)) (hq:decide (0≤q)=true):Ye P ⟨d,.binOp .shr t x y t',ty,pos,af,g⟩ a E w (.int k (fy k p q)) :=
 Ye.of fun w=>by
  have h1:=hS.ev hx;have h2:=hS.ev hy;have h3:¬ q<0:=by have:=of_decide_eq_true hq; omega
  simp [execOp,h1,h2,eqGuard,binOp,Op.shift,h3,fy]
end
end
section
open Go.Lib
def zf (c:UInt8):Bool:=decide (48≤c.toNat)&&decide (c.toNat≤57)
def bZ:List UInt8→Nat→Int
 | [],n=>n
 | c::r,n=>if zf c then bZ r (10*n+(c.toNat-48)) else -1
def sS (l:List UInt8):Int:=if l=[]∨9<l.length∨(l.getD 0 0=48∧l≠[48]) then -1 else bZ l 0
theorem tv:∀ (l:List UInt8) (n:Nat),bZ l n = -1∨(n:Int)≤bZ l n
 | [],n=>.inr (by simp [bZ])
 | c::r,n=>by
  unfold bZ;split
  ·rcases tv r (10*n+(c.toNat-48)) with h | h
   ·exact .inl h
   ·exact .inr (by omega)
  ·exact .inl rfl
theorem wM:∀ (l:List UInt8) (n:Nat),bZ l n<(n+1)*10 ^ l.length
 | [],n=>by simp [bZ]; omega
 | c::r,n=>by
  unfold bZ;split
  ·rename_i h;have hc:c.toNat≤57:=by simp [zf] at h; omega
   have:=wM r (10*n+(c.toNat-48));have h2:((10*n+(c.toNat-48):Nat):Int)+1≤(n+1)*10:=by omega
   have h3:(((10*n+(c.toNat-48):Nat):Int)+1)*10 ^ r.length≤((n+1)*10)*10 ^ r.length:=zR h2 (by exact Int.le_of_lt (Int.pow_pos (by omega)));have h4:(((n:Int)+1)*10)*10 ^ r.length=((n:Int)+1)*10 ^ (c::r).length:=by rw [g9,Int.pow_succ,tP,Int.mul_comm 10]
   omega
  ·have:(0:Int)<((n:Int)+1)*10 ^ (c::r).length:=Int.mul_pos (by omega) (Int.pow_pos (by omega));omega
theorem oK:∀ (l:List UInt8) (n m:Nat) (c:UInt8),bZ l n=m→bZ (l++[c]) n=if zf c then ((10*m+(c.toNat-48):Nat):Int) else -1
 | [],n,m,c,h=>by
  simp only [bZ] at h;have:n=m:=by omega
  subst this;simp [bZ]
 | d::r,n,m,c,h=>by
  unfold bZ at h;split at h
  ·rename_i hd;show bZ (d::(r++[c])) n=_;rw [bZ,if_pos hd];exact oK r _ m c h
  ·omega
theorem uS {k:Nat} (h:k<10):(UInt8.ofNat (48+k)).toNat=48+k:=by
 have:(UInt8.ofNat (48+k)).toNat=(48+k) % 256:=rfl;omega
theorem zg {k:Nat} (h:k<10):zf (UInt8.ofNat (48+k))=true:=by
 unfold zf; rw [uS h]; simp; omega
theorem vE (n:Nat):bZ (decDigits n) 0=n:=by
 induction n using Nat.strongRecOn with
 | _ n ih =>
  rw [decDigits];split
  ·rename_i h;simp only [bZ,zg h,if_true,uS h];omega
  ·rename_i h;rw [oK _ 0 (n / 10) _ (ih (n / 10) (by omega)),zg (by omega),if_pos rfl,uS (by omega)];omega
theorem ze (n:Nat):decDigits n≠[]:=by
 rw [decDigits]; split <;> simp
theorem Eu (n:Nat):(decDigits n).getD 0 0=48→decDigits n=[48]:=by
 induction n using Nat.strongRecOn with
 | _ n ih =>
  rw [decDigits];split
  ·rename_i h;intro h2;simp only [List.getD_cons_zero] at h2;rw [h2]
  ·rename_i h;intro h2;have hne:=ze (n / 10);have h3:(decDigits (n / 10)).getD 0 0=48:=by
    cases hd:decDigits (n / 10) with
    | nil=>exact absurd hd hne
    | cons a r=>rw [hd] at h2; simpa using h2
   have h4:=ih (n / 10) (by omega) h3;have h5:=vE (n / 10);rw [h4] at h5;have:bZ [48] 0=0:=rfl;omega
theorem tZ (n:Nat):∀ k,n<10 ^ (k+1)→(decDigits n).length≤k+1:=by
 induction n using Nat.strongRecOn with
 | _ n ih =>
  intro k hk;rw [decDigits];split
  ·simp
  ·rename_i h;cases k with
   | zero=>simp at hk; omega
   | succ k =>
    have:=ih (n / 10) (by omega) k (by rw [Nat.div_lt_iff_lt_mul (by omega)]; rwa [Nat.pow_succ] at hk);simp; omega
theorem An {n:Nat} (h:n<1000000000):sS (decDigits n)=n:=by
 unfold sS;rw [if_neg,vE];rintro (h1 | h1 | ⟨h1,h2⟩)
 ·exact ze n h1
 ·have:=tZ n 8 (by simpa using h); omega
 ·exact h2 (Eu n h1)
theorem B7 {α:Type} (l:List α):l=[]∨∃ r c,l=r++[c]:=by
 rcases List.eq_nil_or_concat l with h | ⟨r,c,h⟩
 ·exact .inl h
 ·exact .inr ⟨r,c,by simpa using h⟩
theorem rA:∀ (l:List UInt8) (n:Nat) (c:UInt8),bZ l n = -1→bZ (l++[c]) n = -1
 | [],n,c,h=>by simp [bZ] at h
 | d::r,n,c,h=>by
  show bZ (d::(r++[c])) n=_;unfold bZ at h ⊢;split
  ·rename_i hd;rw [if_pos hd] at h;exact rA r _ c h
  ·rfl
theorem Ao:∀ (k:Nat) (l:List UInt8) (n:Nat),l.length≤k→l≠[]→(l.getD 0 0=48→l=[48])→bZ l 0=n→decDigits n=l:=by
 intro k
 induction k with
 | zero=>intro l n hk h1 _ _; exact absurd (xJ (by omega)) h1
 | succ k ih =>
  intro l n hk h1 h2 h3;rcases B7 l with rfl | ⟨r,c,rfl⟩
  ·exact absurd rfl h1
  ·cases hr:r with
   | nil =>
    subst hr;simp only [Bu,bZ] at h3 ⊢;split at h3
    ·rename_i hd;have hc:48≤c.toNat∧c.toNat≤57:=by simpa [zf] using hd
     have hn:n=c.toNat-48:=by omega
     rw [decDigits,dif_pos (by omega),hn,show 48+(c.toNat-48)=c.toNat by omega,UInt8.ofNat_toNat]
    ·omega
   | cons a r' =>
    rw [← hr];rcases tv r 0 with h | h
    ·rw [rA r 0 c h] at h3; omega
    ·obtain⟨m,hm⟩:∃ m:Nat,bZ r 0=m:=⟨(bZ r 0).toNat,by omega⟩;rw [oK r 0 m c hm] at h3;split at h3
     ·rename_i hd;have hc:48≤c.toNat∧c.toNat≤57:=by simpa [zf] using hd
      have ha:r.getD 0 0≠48:=by
       intro e;have:=h2 (by rw [hr] at e ⊢; simpa using e);rw [hr] at this; simp at this
      have hrec:=ih r m (by simp at hk; omega) (by rw [hr]; simp) (fun e=>absurd e ha) hm;have hm0:1≤m:=by
       rcases vR m with e | e
       ·subst e;rw [decDigits,dif_pos (by omega)] at hrec;rw [← hrec] at ha;exact absurd rfl ha
       ·exact e
      rw [decDigits,dif_neg (by omega),show n / 10=m by omega,hrec,show n % 10=c.toNat-48 by omega,show 48+(c.toNat-48)=c.toNat by omega,UInt8.ofNat_toNat]
     ·omega
theorem Ew {l:List UInt8} {n:Nat} (h:sS l=n):decDigits n=l∧n<1000000000:=by
 unfold sS at h;split at h
 ·omega
 ·rename_i hc;have h1:l≠[]:=fun e=>hc (.inl e);have h2:l.length≤9:=by
   rcases ik 9 l.length with e | e
   ·exact absurd (.inr (.inl e)) hc
   ·exact e
  have h3:l.getD 0 0=48→l=[48]:=fun e=>FO fun e2=>hc (.inr (.inr ⟨e,e2⟩));refine⟨Ao 9 l n h2 h1 h3 h,?_⟩;have:=wM l 0;have hp:(10:Nat) ^ l.length≤10 ^ 9:=zS (by omega) h2;have hq:((10:Int) ^ l.length)=((10 ^ l.length:Nat):Int):=by simp
  rw [h,hq] at this;simp only [Int.natCast_zero,Int.zero_add,Int.one_mul] at this;have:(10:Nat) ^ 9=1000000000:=rfl;omega
theorem Gd (l:List UInt8) : -1≤sS l:=by
 unfold sS;split
 ·omega
 ·rcases tv l 0 with h | h <;> omega
theorem yF:∀ (l:List UInt8) (a m:Nat) (c:UInt8),parseUint10 a l = .ok m→m<1000000000000→zf c=true→parseUint10 a (l++[c]) = .ok (10*m+(c.toNat-48))
 | [],a,m,c,h,hm,hc=>by
  simp only [parseUint10] at h;injection h with h;subst h;have hc':48≤c.toNat∧c.toNat≤57:=by simpa [zf] using hc
  simp only [Bu,parseUint10];rw [if_pos hc',if_neg (by omega),if_neg (by omega)];congr 1; omega
 | d::r,a,m,c,h,hm,hc=>by
  show parseUint10 a (d::(r++[c]))=_;unfold parseUint10 at h ⊢;split at h
  ·rename_i hd;rw [if_pos hd];split at h
   ·cases h
   ·rename_i h2;rw [if_neg h2];split at h
    ·cases h
    ·rename_i h3;rw [if_neg h3];exact yF r _ m c h hm hc
  ·cases h
theorem DH (n:Nat) (h:n<1000000000000):parseUint10 0 (decDigits n) = .ok n:=by
 induction n using Nat.strongRecOn with
 | _ n ih =>
  rw [decDigits];split
  ·rename_i h;simp only [parseUint10,uS h];rw [if_pos (by omega),if_neg (by omega),if_neg (by omega)];congr 1; omega
  ·rename_i h;rw [yF _ 0 (n / 10) _ (ih (n / 10) (by omega) (by omega)) (by omega) (zg (by omega)),uS (by omega)];congr 1; omega
theorem Ge (n:Nat):48≤((decDigits n).getD 0 0).toNat:=by
 induction n using Nat.strongRecOn with
 | _ n ih =>
  rw [decDigits];split
  ·rename_i h;simp only [List.getD_cons_zero];rw [uS h]; omega
  ·rename_i h;have hne:=ze (n / 10);have:=ih (n / 10) (by omega);cases hd:decDigits (n / 10) with
   | nil=>exact absurd hd hne
   | cons a r=>rw [hd] at this; simpa using this
theorem Ad {n:Nat} (h:n<1000000000):atoiAll (decDigits n) = .ok (n:Int):=by
 have h1:=DH n (by omega);have h2:=Ge n;have h3:=ze n;cases hd:decDigits n with
 | nil=>exact absurd hd h3
 | cons c r =>
  rw [hd] at h1 h2;simp only [List.getD_cons_zero] at h2;have h45:¬ (c.toNat=43∨c.toNat=45):=by omega
  have h46:¬ c.toNat=45:=by omega
  simp only [atoiAll,if_neg h45,parseMag,if_neg (List.cons_ne_nil c r),h1];rw [if_neg (by omega),if_neg (by omega),if_neg h46]
def GU (M:Nat) (l:List UInt8):Int:=if sS l≤M then sS l else -1
end
end Go.Proofs.YtdcojaccpnabkaaGreatDoor
section
namespace Go.Proofs
open Go.Shelf
def Tryz.lays106_ren:Go.Shelf.Ren:=⟨fun | 106=>66 | 213=>100 | 265=>125 | n=>n,fun | 9=>9 | 3=>3 | n=>n,fun | n=>n⟩
theorem Tryz.lays106:Go.Proofs.Lays.n106 Tryz.prog Tryz.lays106_ren:={
 mixed:=by kernel_rfl
 f106:=Tryz.func66.trans (congrArg some (by kernel_rfl))
 f213:=Tryz.func100.trans (congrArg some (by kernel_rfl))
 f265:=Tryz.func125.trans (congrArg some (by kernel_rfl))
 t3:=Tryz.underlying3
 a3:=Tryz.isAgg3
 z3:=Tryz.sizeOf3
 v3:=Tryz.zeroValue3
 t9:=Tryz.underlying9
 a9:=Tryz.isAgg9
 z9:=Tryz.sizeOf9
 v9:=Tryz.zeroValue9 }
open Go.RowKit in
theorem Tryz.strings_Compare (a b:ByteArray) (w:World) :
  Calls Tryz.prog 66 #[.string a,.string b] w fun e w'=>e = .returned (.int .i64 (Lib.compareBytes a.data.toList b.data.toList))∧w'=w:=Any.strings_Compare Tryz.lays106 a b w
def Tryz.laysM171_ren:Go.Shelf.Ren:=⟨fun | 171=>111 | 243=>138 | 246=>153 | 283=>185 | 284=>186 | 285=>187 | 286=>188 | 129=>267 | 317=>266 | 318=>268 | 319=>269 | 320=>270 | 337=>344 | 338=>345 | n=>n,fun | 3=>3 | 9=>9 | 2=>2 | 4=>4 | 171=>227 | 0=>0 | 53=>228 | 37=>231 | 5=>5 | 173=>232 | 212=>366 | 51=>367 | 20=>20 | 213=>368 | 46=>67 | 232=>537 | 233=>538 | n=>n,fun | 17=>1 | 18=>4 | 19=>5 | n=>n⟩
theorem Tryz.laysM171:Go.Proofs.LaysM.n171 Tryz.prog Tryz.laysM171_ren:={
 mixed:=by kernel_rfl
 f129:=Tryz.func267.trans (congrArg some (by kernel_rfl))
 f171:=Tryz.func111.trans (congrArg some (by kernel_rfl))
 f243:=Tryz.func138.trans (congrArg some (by kernel_rfl))
 f246:=Tryz.func153.trans (congrArg some (by kernel_rfl))
 f283:=Tryz.func185.trans (congrArg some (by kernel_rfl))
 f284:=Tryz.func186.trans (congrArg some (by kernel_rfl))
 f285:=Tryz.func187.trans (congrArg some (by kernel_rfl))
 f286:=Tryz.func188.trans (congrArg some (by kernel_rfl))
 f317:=Tryz.func266.trans (congrArg some (by kernel_rfl))
 f318:=Tryz.func268.trans (congrArg some (by kernel_rfl))
 f319:=Tryz.func269.trans (congrArg some (by kernel_rfl))
 f320:=Tryz.func270.trans (congrArg some (by kernel_rfl))
 f337:=Tryz.func344.trans (congrArg some (by kernel_rfl))
 f338:=Tryz.func345.trans (congrArg some (by kernel_rfl))
 t0:=Tryz.underlying0
 a0:=Tryz.isAgg0
 z0:=Tryz.sizeOf0
 v0:=Tryz.zeroValue0
 t2:=Tryz.underlying2
 a2:=Tryz.isAgg2
 z2:=Tryz.sizeOf2
 v2:=Tryz.zeroValue2
 t3:=Tryz.underlying3
 a3:=Tryz.isAgg3
 z3:=Tryz.sizeOf3
 v3:=Tryz.zeroValue3
 t4:=Tryz.underlying4
 a4:=Tryz.isAgg4
 z4:=Tryz.sizeOf4
 v4:=Tryz.zeroValue4
 t5:=Tryz.underlying5
 a5:=Tryz.isAgg5
 z5:=Tryz.sizeOf5
 v5:=Tryz.zeroValue5
 t9:=Tryz.underlying9
 a9:=Tryz.isAgg9
 z9:=Tryz.sizeOf9
 v9:=Tryz.zeroValue9
 t20:=Tryz.underlying20
 a20:=Tryz.isAgg20
 z20:=Tryz.sizeOf20
 v20:=Tryz.zeroValue20
 t37:=Tryz.underlying231
 a37:=Tryz.isAgg231
 z37:=Tryz.sizeOf231
 v37:=Tryz.zeroValue231
 t46:=Tryz.underlying67
 a46:=Tryz.isAgg67
 z46:=Tryz.sizeOf67
 v46:=Tryz.zeroValue67
 t51:=Tryz.underlying367
 a51:=Tryz.isAgg367
 z51:=Tryz.sizeOf367
 v51:=Tryz.zeroValue367
 t53:=Tryz.underlying228
 a53:=Tryz.isAgg228
 z53:=Tryz.sizeOf228
 v53:=Tryz.zeroValue228
 t171:=Tryz.underlying227
 a171:=Tryz.isAgg227
 z171:=Tryz.sizeOf227
 v171:=Tryz.zeroValue227
 t173:=Tryz.underlying232
 a173:=Tryz.isAgg232
 z173:=Tryz.sizeOf232
 v173:=Tryz.zeroValue232
 t212:=Tryz.underlying366
 a212:=Tryz.isAgg366
 z212:=Tryz.sizeOf366
 v212:=Tryz.zeroValue366
 t213:=Tryz.underlying368
 a213:=Tryz.isAgg368
 z213:=Tryz.sizeOf368
 t232:=Tryz.underlying537
 a232:=Tryz.isAgg537
 z232:=Tryz.sizeOf537
 v232:=Tryz.zeroValue537
 t233:=Tryz.underlying538
 a233:=Tryz.isAgg538
 z233:=Tryz.sizeOf538
 v233:=Tryz.zeroValue538
 g17:=by kernel_rfl
 g18:=by kernel_rfl
 g19:=by kernel_rfl
 i0:=by kernel_rfl
 i2:=by kernel_rfl
 i3:=by kernel_rfl
 i4:=by kernel_rfl
 i5:=by kernel_rfl
 i9:=by kernel_rfl
 i20:=by kernel_rfl
 i37:=by kernel_rfl
 i46:=by kernel_rfl
 i51:=by kernel_rfl
 i53:=by kernel_rfl
 i171:=by kernel_rfl
 i173:=by kernel_rfl
 i212:=by kernel_rfl
 i232:=by kernel_rfl
 i233:=by kernel_rfl
 m17:=by kernel_rfl
 m18:=by kernel_rfl
 m19:=by kernel_rfl }
open Go.RowKit Go.Sort Go.Lib in
theorem Tryz.strconv_Itoa (n : Int) (h0 : -9223372036854775808 ≤ n) (h1 : n ≤ 9223372036854775807) (w : World) (htab : Lib.TabIs Tryz.prog w "internal/strconv.uint64pow10" .u64 Lib.pow10Tab) :
  Calls Tryz.prog 111 #[.int .i64 n] w fun e w'=>e = .returned (.string ⟨(Lib.itoa n).toArray⟩)∧∃ k os,w'=grow (w.drewN k) os:=Any.strconv_Itoa Tryz.laysM171 n h0 h1 w htab
def Tryz.laysC172_ren:Go.Shelf.Ren:=⟨fun | 172=>149 | 244=>183 | 245=>184 | 247=>261 | 279=>262 | 280=>263 | 281=>264 | 282=>265 | 287=>341 | 316=>342 | 171=>111 | 205=>343 | 321=>414 | 322=>415 | 243=>138 | 246=>153 | 283=>185 | 284=>186 | 285=>187 | 286=>188 | 129=>267 | 317=>266 | 318=>268 | 319=>269 | 320=>270 | 337=>344 | 338=>345 | n=>n,fun | 9=>9 | 3=>3 | 75=>180 | 76=>181 | 4=>4 | 5=>5 | 167=>359 | 37=>231 | 0=>0 | 85=>360 | 2=>2 | 168=>362 | 53=>228 | 175=>469 | 46=>67 | 210=>472 | 127=>533 | 145=>536 | 143=>534 | 21=>21 | 171=>227 | 173=>232 | 212=>366 | 51=>367 | 20=>20 | 213=>368 | 232=>537 | 233=>538 | 80=>225 | n=>n,fun | 15=>2 | 16=>3 | 17=>1 | 18=>4 | 19=>5 | n=>n⟩
theorem Tryz.laysC172:Go.Proofs.LaysC.n172 Tryz.prog Tryz.laysC172_ren:={
 mixed:=by kernel_rfl
 f129:=Tryz.func267.trans (congrArg some (by kernel_rfl))
 f171:=Tryz.func111.trans (congrArg some (by kernel_rfl))
 f172:=Tryz.func149.trans (congrArg some (by kernel_rfl))
 f205:=Tryz.func343.trans (congrArg some (by kernel_rfl))
 f243:=Tryz.func138.trans (congrArg some (by kernel_rfl))
 f244:=Tryz.func183.trans (congrArg some (by kernel_rfl))
 f245:=Tryz.func184.trans (congrArg some (by kernel_rfl))
 f246:=Tryz.func153.trans (congrArg some (by kernel_rfl))
 f247:=Tryz.func261.trans (congrArg some (by kernel_rfl))
 f279:=Tryz.func262.trans (congrArg some (by kernel_rfl))
 f280:=Tryz.func263.trans (congrArg some (by kernel_rfl))
 f281:=Tryz.func264.trans (congrArg some (by kernel_rfl))
 f282:=Tryz.func265.trans (congrArg some (by kernel_rfl))
 f283:=Tryz.func185.trans (congrArg some (by kernel_rfl))
 f284:=Tryz.func186.trans (congrArg some (by kernel_rfl))
 f285:=Tryz.func187.trans (congrArg some (by kernel_rfl))
 f286:=Tryz.func188.trans (congrArg some (by kernel_rfl))
 f287:=Tryz.func341.trans (congrArg some (by kernel_rfl))
 f316:=Tryz.func342.trans (congrArg some (by kernel_rfl))
 f317:=Tryz.func266.trans (congrArg some (by kernel_rfl))
 f318:=Tryz.func268.trans (congrArg some (by kernel_rfl))
 f319:=Tryz.func269.trans (congrArg some (by kernel_rfl))
 f320:=Tryz.func270.trans (congrArg some (by kernel_rfl))
 f321:=Tryz.func414.trans (congrArg some (by kernel_rfl))
 f322:=Tryz.func415.trans (congrArg some (by kernel_rfl))
 f337:=Tryz.func344.trans (congrArg some (by kernel_rfl))
 f338:=Tryz.func345.trans (congrArg some (by kernel_rfl))
 t0:=Tryz.underlying0
 a0:=Tryz.isAgg0
 z0:=Tryz.sizeOf0
 v0:=Tryz.zeroValue0
 t2:=Tryz.underlying2
 a2:=Tryz.isAgg2
 z2:=Tryz.sizeOf2
 v2:=Tryz.zeroValue2
 t3:=Tryz.underlying3
 a3:=Tryz.isAgg3
 z3:=Tryz.sizeOf3
 v3:=Tryz.zeroValue3
 t4:=Tryz.underlying4
 a4:=Tryz.isAgg4
 z4:=Tryz.sizeOf4
 v4:=Tryz.zeroValue4
 t5:=Tryz.underlying5
 a5:=Tryz.isAgg5
 z5:=Tryz.sizeOf5
 v5:=Tryz.zeroValue5
 t9:=Tryz.underlying9
 a9:=Tryz.isAgg9
 z9:=Tryz.sizeOf9
 v9:=Tryz.zeroValue9
 t20:=Tryz.underlying20
 a20:=Tryz.isAgg20
 z20:=Tryz.sizeOf20
 v20:=Tryz.zeroValue20
 t21:=Tryz.underlying21
 a21:=Tryz.isAgg21
 z21:=Tryz.sizeOf21
 v21:=Tryz.zeroValue21
 t37:=Tryz.underlying231
 a37:=Tryz.isAgg231
 z37:=Tryz.sizeOf231
 v37:=Tryz.zeroValue231
 t46:=Tryz.underlying67
 a46:=Tryz.isAgg67
 z46:=Tryz.sizeOf67
 v46:=Tryz.zeroValue67
 t51:=Tryz.underlying367
 a51:=Tryz.isAgg367
 z51:=Tryz.sizeOf367
 v51:=Tryz.zeroValue367
 t53:=Tryz.underlying228
 a53:=Tryz.isAgg228
 z53:=Tryz.sizeOf228
 v53:=Tryz.zeroValue228
 t75:=Tryz.underlying180
 a75:=Tryz.isAgg180
 z75:=Tryz.sizeOf180
 v75:=Tryz.zeroValue180
 t76:=Tryz.underlying181
 a76:=Tryz.isAgg181
 z76:=Tryz.sizeOf181
 v76:=Tryz.zeroValue181
 t85:=Tryz.underlying360
 a85:=Tryz.isAgg360
 z85:=Tryz.sizeOf360
 v85:=Tryz.zeroValue360
 t127:=Tryz.underlying533
 a127:=Tryz.isAgg533
 z127:=Tryz.sizeOf533
 v127:=Tryz.zeroValue533
 t143:=Tryz.underlying534
 a143:=Tryz.isAgg534
 z143:=Tryz.sizeOf534
 v143:=Tryz.zeroValue534
 t145:=Tryz.underlying536
 a145:=Tryz.isAgg536
 z145:=Tryz.sizeOf536
 v145:=Tryz.zeroValue536
 t167:=Tryz.underlying359
 a167:=Tryz.isAgg359
 z167:=Tryz.sizeOf359
 v167:=Tryz.zeroValue359
 t168:=Tryz.underlying362
 a168:=Tryz.isAgg362
 z168:=Tryz.sizeOf362
 v168:=Tryz.zeroValue362
 t171:=Tryz.underlying227
 a171:=Tryz.isAgg227
 z171:=Tryz.sizeOf227
 v171:=Tryz.zeroValue227
 t173:=Tryz.underlying232
 a173:=Tryz.isAgg232
 z173:=Tryz.sizeOf232
 v173:=Tryz.zeroValue232
 t175:=Tryz.underlying469
 a175:=Tryz.isAgg469
 z175:=Tryz.sizeOf469
 v175:=Tryz.zeroValue469
 t210:=Tryz.underlying472
 a210:=Tryz.isAgg472
 z210:=Tryz.sizeOf472
 v210:=Tryz.zeroValue472
 t212:=Tryz.underlying366
 a212:=Tryz.isAgg366
 z212:=Tryz.sizeOf366
 v212:=Tryz.zeroValue366
 t213:=Tryz.underlying368
 a213:=Tryz.isAgg368
 z213:=Tryz.sizeOf368
 t232:=Tryz.underlying537
 a232:=Tryz.isAgg537
 z232:=Tryz.sizeOf537
 v232:=Tryz.zeroValue537
 t233:=Tryz.underlying538
 a233:=Tryz.isAgg538
 z233:=Tryz.sizeOf538
 v233:=Tryz.zeroValue538
 g15:=by kernel_rfl
 g16:=by kernel_rfl
 g17:=by kernel_rfl
 g18:=by kernel_rfl
 g19:=by kernel_rfl
 t80:=Tryz.underlying225
 a80:=Tryz.isAgg225
 z80:=Tryz.sizeOf225
 v80:=Tryz.zeroValue225
 i0:=by kernel_rfl
 i2:=by kernel_rfl
 i3:=by kernel_rfl
 i4:=by kernel_rfl
 i5:=by kernel_rfl
 i9:=by kernel_rfl
 i20:=by kernel_rfl
 i21:=by kernel_rfl
 i37:=by kernel_rfl
 i46:=by kernel_rfl
 i51:=by kernel_rfl
 i53:=by kernel_rfl
 i75:=by kernel_rfl
 i76:=by kernel_rfl
 i80:=by kernel_rfl
 i85:=by kernel_rfl
 i127:=by kernel_rfl
 i143:=by kernel_rfl
 i145:=by kernel_rfl
 i167:=by kernel_rfl
 i168:=by kernel_rfl
 i171:=by kernel_rfl
 i173:=by kernel_rfl
 i175:=by kernel_rfl
 i210:=by kernel_rfl
 i212:=by kernel_rfl
 i232:=by kernel_rfl
 i233:=by kernel_rfl
 m15:=by kernel_rfl
 m16:=by kernel_rfl
 m17:=by kernel_rfl
 m18:=by kernel_rfl
 m19:=by kernel_rfl
 c0:=by kernel_rfl
 c2:=by kernel_rfl
 c3:=by kernel_rfl
 c4:=by kernel_rfl
 c5:=by kernel_rfl
 c9:=by kernel_rfl
 c20:=by kernel_rfl
 c21:=by kernel_rfl
 c37:=by kernel_rfl
 c46:=by kernel_rfl
 c51:=by kernel_rfl
 c53:=by kernel_rfl
 c75:=by kernel_rfl
 c76:=by kernel_rfl
 c80:=by kernel_rfl
 c85:=by kernel_rfl
 c127:=by kernel_rfl
 c143:=by kernel_rfl
 c145:=by kernel_rfl
 c167:=by kernel_rfl
 c168:=by kernel_rfl
 c171:=by kernel_rfl
 c173:=by kernel_rfl
 c175:=by kernel_rfl
 c210:=by kernel_rfl
 c212:=by kernel_rfl
 c213:=by kernel_rfl
 c232:=by kernel_rfl
 c233:=by kernel_rfl }
open Go.RowKit in
theorem Tryz.strconv_Atoi_ok (s:ByteArray) (hmax:s.size≤9223372036854775806) (v:Int) (h:Lib.atoiAll s.data.toList = .ok v) (w:World) :
  Calls Tryz.prog 149 #[.string s] w fun e w'=>e = .returned (.tuple #[.int .i64 v,.nilIface])∧(w'=w∨∃ t,w'=Lib.bytesWorld w 5 t):=Any.strconv_Atoi_ok Tryz.laysC172 s hmax v h w
open Go.RowKit in
theorem Tryz.strconv_Atoi_syntax (s:ByteArray) (hlim:s.size≤281474976710656) (h:(∀ z,Lib.atoiAll s.data.toList ≠ .ok z)∧Lib.atoiAll s.data.toList ≠ .range) (ev:Value) (w:World) (hv:w.cell? ⟨2,0,none⟩=some ev) (hev:ev = .nilIface∨∃ te pe,ev = .iface te pe) :
  Calls Tryz.prog 149 #[.string s] w fun e w'=>∃ N,e = .returned (.tuple #[.int .i64 (0),.iface 362 (.pointer (some ⟨N,0,none⟩))])∧w.heap.size≤N∧w'.heap[N]? = some (.cells #[.string ⟨#[65,116,111,105]⟩,.string s,ev] 472 (0,0))∧Below w.heap.size w w':=Any.strconv_Atoi_syntax Tryz.laysC172 s hlim (by cases hx:Lib.atoiAll s.data.toList <;> first | rfl | exact absurd hx (h.1 _) | exact absurd hx h.2) ev w hv hev
open Go.RowKit in
theorem Tryz.strconv_Atoi_range (s:ByteArray) (hlim:s.size≤281474976710656) (h:Lib.atoiAll s.data.toList = .range) (ev:Value) (w:World) (hv:w.cell? ⟨3,0,none⟩=some ev) (hev:ev = .nilIface∨∃ te pe,ev = .iface te pe) :
  Calls Tryz.prog 149 #[.string s] w fun e w'=>∃ N,e = .returned (.tuple #[.int .i64 (Lib.atoiSat s.data.toList),.iface 362 (.pointer (some ⟨N,0,none⟩))])∧w.heap.size≤N∧w'.heap[N]? = some (.cells #[.string ⟨#[65,116,111,105]⟩,.string s,ev] 472 (0,0))∧Below w.heap.size w w':=Any.strconv_Atoi_range Tryz.laysC172 s hlim h ev w hv hev
end Go.Proofs
end
namespace Go.Proofs.YtdcojaccpnabkaaGreatDoor
section
open Go.RowKit
open Go.Lib hiding intOf
structure Lv (w:World):Prop where
 sy:∃ ev,w.cell? ⟨2,0,none⟩=some ev∧(ev = .nilIface∨∃ te pe,ev = .iface te pe)
 ra:∃ ev,w.cell? ⟨3,0,none⟩=some ev∧(ev = .nilIface∨∃ te pe,ev = .iface te pe)
 tab : TabIs aO w "internal/strconv.uint64pow10" .u64 pow10Tab
def Me (k:Nat):Prop:=k=2∨k=3∨k=1
def dc (T:Nat→Prop) (w:World):Prop:=Lv w∧∀ k,Me k→¬ T k∧k<w.heap.size
theorem Lv.keep {w w':World} (h:Lv w) (hk:∀ k,Me k→w'.heap[k]? = w.heap[k]?):Lv w':=by
 obtain⟨⟨e1, h1, h2⟩, ⟨e3, h3, h4⟩, h5⟩ := h;refine⟨⟨e1, (World.cell?_of_block (w := w) (hk _ (.inl rfl))).trans h1, h2⟩, ⟨e3, (World.cell?_of_block (w := w) (hk _ (.inr (.inl rfl)))).trans h3, h4⟩, ?_⟩;have hg : Tryz.prog.globalNamed "internal/strconv.uint64pow10" = some 1 := by kernel_rfl
 unfold TabIs World.var? at *;simp only [hg,aD] at h5 ⊢;rw [hk _ (.inr (.inr rfl))]; exact h5
def br:bG:=⟨dc,fun {T T' w w'} h k n=>⟨h.1.keep fun j hj=>k.block j (h.2 j hj).2 (h.2 j hj).1,fun j hj=>⟨fun ht=>by
 rcases n j ht with h1 | h1
 ·exact (h.2 j hj).1 h1
 ·have:=(h.2 j hj).2; omega,xF (h.2 j hj).2 k.size⟩⟩⟩
theorem dc.dn {T:Nat→Prop} {w:World} (h:dc T w):dc (dT T []) w:=br.keep h (aj _ _) (M2 w)
theorem Lv.here {w:World} (h:Lv w):dc No w:=by
 refine⟨h,fun k hk=>⟨fun h=>h,?_⟩⟩;obtain⟨⟨e1,h1,h2⟩,⟨e3,h3,h4⟩,h5⟩:=h;rcases hk with rfl | rfl | rfl
 ·exact World.block_lt_of_cell? _ _ h1
 ·exact World.block_lt_of_cell? _ _ h3
 ·have hg : Tryz.prog.globalNamed "internal/strconv.uint64pow10" = some 1 := by kernel_rfl
  unfold TabIs World.var? at h5;simp only [hg,aD] at h5;rcases ik 1 w.heap.size with h | h
  ·exact h
  ·rw [C4 h] at h5; cases h5
def IF (n:Int):Bool:=decide (-9223372036854775808≤n)&&decide (n≤9223372036854775807)
def bU (n:Int):ByteArray:=⟨(itoa n).toArray⟩
theorem qI (n:Int):(bU n).toList=itoa n:=by rw [bU,ByteArray.toList_eq]
def vF (n:Int):Option ByteArray:=gd (IF n) (some (bU n))
theorem GL (w:World) (k:Nat) (os:Array Obj):Kt No w (Go.Sort.grow (w.drewN k) os) :=
 ⟨rfl,rfl,rfl,by show w.heap.size≤(w.heap++os).size; simp,fun j hj _=>by show (w.heap++os)[j]? = _; rw [Array.getElem?_append_left hj]⟩
theorem wj (T:Nat→Prop) (W0:World) (hT:∀ k,T k→k<W0.heap.size) (hLv:dc T W0) (n:Int) (y:ByteArray) (hM:vF n=some y):a7 aO No 111 [.int .i64 n] W0 fun v w'=>v = .string y:=by
 unfold vF at hM;obtain⟨h1,h2⟩:=bm hM;injection h2 with h2;subst h2;unfold IF at h1;simp only [nX,decide_eq_true_eq] at h1;refine Calls.mono (Tryz.strconv_Itoa n h1.1 h1.2 W0 hLv.1.tab) ?_;rintro e w' ⟨rfl,k,os,rfl⟩;exact⟨_,rfl,GL _ _ _,rfl⟩
def wC (s:ByteArray):Option (Int×Bool):=gd (Nat.ble s.size 140737488355328) (some (match atoiAll s.toList with
 | .ok v=>(v,false)
 | .range=>(atoiSat s.toList,true)
 | _=>(0,true)))
theorem FZ (T:Nat→Prop) (W0:World) (hT:∀ k,T k→k<W0.heap.size) (hLv:dc T W0) (s:ByteArray) (y:Int×Bool) (hM:wC s=some y):a7 aO No 149 [.string s] W0 fun v w'=>∃ er,v = .tuple #[.int .i64 y.1,er]∧Hc er y.2:=by
 unfold wC at hM;obtain⟨h1,h2⟩:=bm hM;have hs:=oh h1;injection h2 with h2;subst h2;have hl:s.data.toList=s.toList:=(ByteArray.toList_eq s).symm;cases h:atoiAll s.toList
 ·rename_i v;refine Calls.mono (Tryz.strconv_Atoi_ok s (by omega) v (by rw [hl]; exact h) W0) ?_;rintro e w' ⟨rfl,hw⟩;refine⟨_,rfl,?_,.nilIface,rfl,.inl ⟨rfl,rfl⟩⟩;rcases hw with rfl | ⟨t,rfl⟩
  ·exact aj _ _
  ·exact Kt.ofBelow (Go.Joins.below_bytesWorld _ _ _ _ (cM _))
 ·obtain⟨ev,h1,h2⟩:=hLv.1.sy;refine Calls.mono (Tryz.strconv_Atoi_syntax s (by omega) (by rw [hl,h]; exact⟨(fun _ h=>nomatch h),(fun h=>nomatch h)⟩) ev W0 h1 h2) ?_;rintro e w' ⟨N,rfl,_,_,hb⟩;exact⟨_,rfl,Kt.ofBelow hb,_,rfl,.inr ⟨rfl,_,_,rfl⟩⟩
 ·obtain⟨ev,h1,h2⟩:=hLv.1.ra;refine Calls.mono (Tryz.strconv_Atoi_range s (by omega) (by rw [hl]; exact h) ev W0 h1 h2) ?_;rintro e w' ⟨N,rfl,_,_,hb⟩;rw [hl];exact⟨_,rfl,Kt.ofBelow hb,_,rfl,.inr ⟨rfl,_,_,rfl⟩⟩
end
section
open Go.RowKit
theorem oC {σ ρ:Type} {B:σ→Option (Fl σ ρ)} (I:Nat→σ→Prop) (post:ρ→Prop) (N:Nat)
  (hs:∀ k s,k<N→I k s→(∃ s',B s=some (.go s')∧I (k+1) s')∨∃ r,B s=some (.out r)∧post r) (he:∀ s,I N s→∃ r,B s=some (.out r)∧post r) {s:σ} (h0:I 0 s):∃ r,loop B s=some r∧post r:=by
 have key:∀ (m k:Nat) (s:σ),k+m=N→I k s→∃ r,loop B s=some r∧post r:=by
  intro m
  induction m with
  | zero =>
   intro k s hk hI;obtain rfl:k=N:=by omega
   obtain⟨r,h1,h2⟩:=he s hI;exact⟨r,iA h1,h2⟩
  | succ m ih =>
   intro k s hk hI;rcases hs k s (by omega) hI with⟨s',h1,h2⟩|⟨r,h1,h2⟩
   ·obtain⟨r,h3,h4⟩:=ih (k+1) s' (by omega) h2;exact⟨r,(wq h1).trans h3,h4⟩
   ·exact⟨r,iA h1,h2⟩
 exact key N 0 s (by omega) h0
theorem wo {σ ρ:Type} {B:σ→Option (Fl σ ρ)} (I:Nat→σ→Prop) (y:ρ) (N:Nat)
  (hs:∀ k s,k<N→I k s→(∃ s',B s=some (.go s')∧I (k+1) s')∨B s=some (.out y)) (he:∀ s,I N s→B s=some (.out y)) {s:σ} (h0:I 0 s):loop B s=some y:=by
 obtain⟨r,h1,rfl⟩:=oC I (fun r=>r=y) N (fun k s hk hI=>(hs k s hk hI).imp id fun h=>⟨y,h,rfl⟩) (fun s hI=>⟨y,he s hI,rfl⟩) h0;exact h1
theorem oA {z:Int} (h1 : -9223372036854775808≤z) (h2:z≤9223372036854775807):IntKind.i64.wrap z=z:=by rw [IntKind.wrap_i64]; omega
theorem bE {α:Type} {xs:List α} {k:Nat} (h:k<xs.length):bk xs (k:Int)=some xs[k]:=by
 unfold bk;simp [h]
theorem CO {α:Type} {xs:List α} {l h:Nat} (h1:l≤h) (h2:h≤xs.length):pm xs (l:Int) (h:Int)=some ((xs.take h).drop l):=by
 unfold pm;rw [if_pos ⟨by omega,by omega,by omega⟩];simp
theorem ey {n:Nat} (h:n≤4294967296):bL n=true:=Nat.ble_eq_true_of_le h
def Ok {α:Type} (m:Option α) (P:α→Prop):Prop:=∃ y,m=some y∧P y
section
variable {α β:Type} {m:Option α} {P Q:α→Prop} {R:β→Prop} {f:α→Option β} {b:Bool} {x y:Option α}
theorem aq {v:α} (h:P v):Ok (some v) P:=⟨v,rfl,h⟩
theorem aJ (h:Ok m Q) (k:∀ v,Q v→Ok (f v) R):Ok (m.bind f) R:=by
 obtain⟨v,rfl,hv⟩:=h;exact k v hv
theorem aN {v:α} (h:m=some v) (k:Ok (f v) R):Ok (m.bind f) R:=by rw [h]; exact k
theorem aB (ht:b=true→Ok x P) (hf:b=false→Ok y P):Ok (cond b x y) P:=by
 cases b
 ·exact hf rfl
 ·exact ht rfl
theorem eK (hb:b=true) (h:Ok x P):Ok (gd b x) P:=by subst hb; exact h
theorem Ok.mono (h:Ok m Q) (k:∀ v,Q v→P v):Ok m P:=by obtain⟨v,e,hv⟩:=h; exact⟨v,e,k v hv⟩
theorem tW {xs:List α} {i:Int} (h0:0≤i) (h1:i<xs.length) (k:∀ v,xs[i.toNat]? = some v→v∈xs→Ok (f v) R):Ok ((bk xs i).bind f) R:=by
 have hk:i.toNat<xs.length:=by omega
 have e:bk xs i=some xs[i.toNat]:=by
  have:=bE hk;rwa [Int.toNat_of_nonneg h0] at this
 rw [e];exact k _ (bC hk) (iL hk)
theorem bK {σ ρ:Type} {B:σ→Option (Fl σ ρ)} {s:σ} {g:ρ→Option β} (I:Nat→σ→Prop) (post:ρ→Prop) (N:Nat) (h0:I 0 s)
  (hs:∀ k s,k≤N→I k s→Ok (B s) fun r=>match r with
   | .go s'=>k<N∧I (k+1) s'
   | .out r=>post r)
  (k:∀ r,post r→Ok (g r) R):Ok ((Go.Proofs.YtdcojaccpnabkaaGreatDoor.loop B s).bind g) R:=by
 obtain⟨r,h1,h2⟩:=oC (B:=B) I post N (fun k s hk hI=>by
   obtain⟨y,e,hy⟩:=hs k s (by omega) hI;cases y with
   | go s'=>exact .inl ⟨s',e,hy.2⟩
   | out r=>exact .inr ⟨r,e,hy⟩) (fun s hI=>by
   obtain⟨y,e,hy⟩:=hs N s (cM _) hI;cases y with
   | go s'=>exact absurd hy.1 (by omega)
   | out r=>exact⟨r,e,hy⟩) h0
 rw [h1];exact k r h2
end
end
section
open Go.RowKit
open Go.Lib hiding intOf
theorem vD (s:ByteArray):s.data.toList=s.toList:=(ByteArray.toList_eq s).symm
def qb (a b:ByteArray):Option Int:=some (Lib.compareBytes a.toList b.toList)
theorem vC (T:Nat→Prop) (W0:World) (hT:∀ k,T k→k<W0.heap.size) (hLv:dc T W0) (a b:ByteArray) (y:Int) (hM:qb a b=some y):a7 aO No 66 [.string a,.string b] W0 fun v w'=>v = .int .i64 y:=by
 refine Calls.mono (Tryz.strings_Compare a b W0) ?_;rintro e w' ⟨rfl,rfl⟩;refine⟨_,rfl,aj _ _,?_⟩;rw [vD,vD,← bO hM]
end
section
open Go.RowKit
variable {pos:String} {af:Array Edge} {g:Option (Nat×Bool)}
def D4 (f g:bG):bG:=⟨fun T w=>f.p T w∧g.p T w,fun h k n=>⟨f.keep h.1 k n,g.keep h.2 k n⟩⟩
def Aa:bG:=⟨fun _ _=>True,fun _ _ _=>trivial⟩
def KM (sz:Nat) (v v':Value) (lo hi n:Nat):Prop:=∃ A c,v = .slice A n c∧n≤c∧lo≤hi∧hi≤n∧v' = .slice (if c=lo then A else A.map (·.add (lo*sz))) (hi-lo) (c-lo)
def KN (sz:Nat) (v v':Value) (lo hi n:Nat):bG:=⟨fun _ _=>KM sz v v' lo hi n,fun h _ _=>h⟩
section
variable {P:Program} {W:World} {M T E:Nat→Prop} {n:Nat} {G G':List (Nat×Value)} {D D' D0 Dr rs:List cc} {F F':List bG} {a:Act} {w w':World} {K:Act→World→Prop}
theorem xz {d:Option Nat} {f:Nat} {caps:Array Operand} {ty:TypeId} {vs:ba} (hS:St W M T n G D F a w) (hv:evs G caps.toList=some vs) :
  Ye P ⟨d,.makeFunc (.func f) #[] caps,ty,pos,af,g⟩ a E w (.func (.func f) #[] vs.toArray) :=
 Ye.of fun w=>by
  have h1:(caps.map a.eval)=vs.toArray:=by
   apply Bv.1;rw [Array.toList_map,hS.evs hv]
  simp [execOp,Instr.makeFunc,h1]
theorem St.freezeBox {b:Nat} {cs:ba} {t:TypeId} (h:St W M T n G D F a w) (i:Nat) (hi:D[i]? = some (.box b cs t)):St W M T n G (D.eraseIdx i) (ji b 0 cs::F) a w:=by
 have hlt:=(bD.1 hi).1;have hD:=(bD.1 hi).2;have ho:w.heap[b]? = some (.cells cs.toArray t (0,0)):=h.own _ (aH hi);refine (h.drop i).fact _ ⟨fun hT=>?_,(sA.1 ho).1,fun j u hu=>?_⟩
 ·rcases hT with hT | ⟨s,hs,hT⟩
  ·exact (h.free _ (aH hi) b rfl).1 hT
  ·obtain⟨z,hz⟩:=gZ.1 hs;rw [tQ] at hz;split at hz
   ·rename_i hzi;have hzl:=(bD.1 hz).1;have:=gw.1 h.apart z i hzl hlt hzi b (by rw [(bD.1 hz).2]; exact hT);rw [hD] at this; exact this rfl
   ·rename_i hzi;have hzl:=(bD.1 hz).1;have:=gw.1 h.apart i (z+1) hlt hzl (by omega) b (by rw [hD]; rfl);rw [(bD.1 hz).2] at this; exact this hT
 ·rw [sx,(yk.of ho).cell];simpa using hu
theorem JY {α:Type} {R:aR α} {xs ys:List α} {e e' t:TypeId} {v:Value} {cl:ba} {lo hi:Int} {ag:Bool} (hS:St W M T n G D F a w) (ht:kw P t=some e) (he:mx P e=some (ag,R.size)) (q:Nat) (hq:D[q]? = some (.own v e' R.size cl)) (j:Nat) (hj:F[j]? = some (an R cl xs)) (hg:pm xs lo hi=some ys) :
  ∃ v',(∀ (T:Nat→Prop) (w:World),aC R T w v xs→aC R T w v' ys)∧KM R.size v v' lo.toNat hi.toNat xs.length∧(∀ {E:Nat→Prop} {d:Option Nat} {ty:TypeId} {X:Operand} {olo ohi:Option Operand} {pos:String} {af:Array Edge} {g:Option (Nat×Bool)} {k1 k2:IntKind},ev G X=some v→((∃ x,olo=some x∧ev G x=some (.int k1 lo))∨(olo=none∧lo=0))→((∃ x,ohi=some x∧ev G x=some (.int k2 hi))∨(ohi=none∧hi=xs.length))→Ye P ⟨d,.slice t X olo ohi none,ty,pos,af,g⟩ a E w v'):=by
 obtain⟨q1,q2,q3,rfl⟩:=oH hg;obtain⟨A,c,hv,h1,h2,hS'⟩:=G1 (lo:=lo.toNat) (hi:=hi.toNat) hS q hq j hj (by omega) (by omega);refine⟨_,fun T w h=>?_,⟨A,c,hv,h1,by omega,by omega,rfl⟩,fun hX hlo hhi=>Hb hS ht he q1 q2 q3 h1 hv hX hlo hhi⟩;subst hv;refine h.cut (by omega) (by omega) _ (fun hlt b o hA=>?_);rw [if_neg (by omega),hA];simp [kC]
theorem lN.mid {e:TypeId} {sz:Nat} {v:Value} {cl us:ba} {B:Nat} (h:lN w B e sz v cl) (o:Nat) (hl:o+us.length≤cl.length) (hpos:0<us.length) :
  ∃ g off m c cs,v = .slice (some ⟨g,off,none⟩) m c∧cl.length=m*sz∧m≤c∧yk w g cs e∧off+c*sz≤cs.size∧lN (w.setCells g (off+o) us) B e sz v (kT cl o us)∧(∀ j,j<us.length→(w.cell? ⟨g,off+o+j,none⟩).isSome=true)∧(∀ j,j<us.length→w.frozen? ⟨g,off+o+j,none⟩=false):=by
 rcases h with⟨_,rfl⟩|⟨g,off,m,c,cs,rfl,h1,hb,hg,hmc,hc,hsz,hcs⟩
 ·simp only [rI] at hl; omega
 have hmz:m*sz≤c*sz:=mD _ hmc;refine⟨g,off,m,c,cs,rfl,h1,hmc,hg,hsz,?_,fun j hj=>?_,fun j hj=>hg.free (by omega)⟩
 ·obtain⟨fz,hg1,hfz⟩:=hg;obtain⟨cs',a1,a2,a3,a4⟩:=mq g e fz us (off+o) w cs hg1;refine .inr ⟨g,off,m,c,cs',rfl,?_,hb,⟨fz,a1,by rw [a2]; exact hfz⟩,hmc,hc,by rw [a2]; exact hsz,fun j u hu=>?_⟩
  ·unfold kT; simp only [cW,il,rJ]; omega
  ·rw [uD _ _ _ _ hl] at hu;split at hu
   ·rename_i hj;have:=a4 (by omega) _ u hu;rwa [show off+o+(j-o)=off+j by omega] at this
   ·rename_i hj;rw [a3 _ (by omega)]; exact hcs j u hu
 ·rw [hg.cell,sB (by omega)]; rfl
theorem BZ {α:Type} {R:aR α} {T:Nat→Prop} {w:World} {B:Nat} {e:TypeId} {v:Value} {cl:ba} {xs:List α} {A:Option Addr} {m c:Nat} (h:lN w B e R.size v cl) (hs:0<R.size) (hr:az R T w cl xs) (hv:v = .slice A m c):m=xs.length:=by
 rcases h with⟨rfl,rfl⟩|⟨g,off,m',c',cs,rfl,h1,_⟩
 ·injection hv with _ e2 _;have:=hr.1;rw [← e2];cases xs with
  | nil=>rfl
  | cons x r=>simp [iM] at this; omega
 ·injection hv with _ e2 _;subst e2;exact vQ hs (h1.symm.trans hr.1)
theorem az.mid {α:Type} {R:aR α} {T:Nat→Prop} {w:World} {cl us:ba} {xs ys:List α} (h:az R T w cl xs) (k:az R T w us ys) {lo:Nat} (hl:lo+ys.length≤xs.length):az R T w (kT cl (lo*R.size) us) (xs.take lo++ys++xs.drop (lo+ys.length)):=by
 have h1:=h.cut (ez lo) (by omega);have h2:=h.cut hl (cM _);rw [Nat.zero_mul,List.drop_zero,List.drop_zero] at h1;rw [lJ,Bq (by rw [h.1]; exact cM _)] at h2;have h3:=(h1.append k).append h2;unfold kT;rw [k.1,← iM];exact h3
theorem xM (z:Value):∀ m:Nat,(Builtin.zeroCells z.cells m).toList=(List.replicate m z.cells.toList).flatten:=by
 intro m;rw [← yB];simp [Builtin.zeroCells,madeCells]
theorem GP {α:Type} {R:aR α} {z0:α} {xs:List α} {ty t e:TypeId} {x:Operand} {bt lo hi:Nat} {v v':Value} {cl zs:ba} (hS:St W M T n G D F a w) (he:Ar P t=some (e,R.size,bt)) (hz:jh P e=some zs) (hx:ev G x=some v') (i:Nat) (hi_:D[i]? = some (.own v e R.size cl)) (p:Nat) (hp:F[p]? = some (an R cl xs)) {m0:Nat} (hw:KM R.size v v' lo hi m0) (hr:R.rel (dT T D) w zs z0)
  (k:∀ cl' w',Kt (fun j=>v.ownBlock=some j) w w'→St W M T n G (D.set i (.own v e R.size cl')) (an R cl' (xs.take lo++List.replicate (hi-lo) z0++xs.drop hi)::F) a w'→K a w'):po P ⟨none,.call { callee:=.builtin .clear,args:=#[x],argTypes:=#[t] },ty,pos,af,g⟩ a w K:=by
 obtain⟨hown,hsz⟩:=hS.own _ (aH hi_);have hrow:az R (dT T D) w cl xs:=hS.get p hp;obtain⟨A,c,hv,hnc,hlh,hhn,hv'⟩:=hw;obtain rfl:m0=xs.length:=BZ hown hsz hrow hv;obtain⟨ht,_⟩:=zi he;obtain⟨z,hzl,hzr⟩:=vu hz w;have hx':=hS.ev hx;by_cases h0:hi-lo=0
 ·have h1:(execOp a.eval ⟨none,.call { callee:=.builtin .clear,args:=#[x],argTypes:=#[t] },ty,pos,af,g⟩).run P w = .ok (.value (.tuple #[])) w:=by
   rw [h0] at hv';subst hv';simp only [execOp,resolve,invoke,builtin];generalize (if c=lo then A else A.map (·.add (lo*R.size)))=A' at hx' ;cases A' <;> simp [Builtin.clear_,hx',run_underlying ht]
  refine uY h1 (k cl w (aj _ _) ?_);rw [h0];have e1:xs.take lo++List.replicate 0 z0++xs.drop hi=xs:=by
   rw [List.replicate_zero,xG,show hi=lo by omega,Bt]
  rw [e1];have h2:=(hS.fact (an R cl xs) hrow).turn hi_ (w':=w) (aj _ _) (r':=.own v e R.size cl) ⟨hown,hsz⟩ (fun j hj=>.inl hj);exact h2
 ·have hrows:=az.rep hr (hi-lo);have hlen:=hrows.1;rw [List.length_replicate] at hlen;have hclen:=hrow.1;have q1:lo*R.size+(hi-lo)*R.size≤cl.length:=by
   rw [hclen,← iM]; exact mD _ (by omega)
  have q2:0<(hi-lo)*R.size:=Nat.mul_pos (by omega) hsz;obtain⟨gb,off,m,c',cs,hv2,h1,hmc,hg,hcs,hown',hcell,hfree⟩:=hown.mid (us:=(List.replicate (hi-lo) zs).flatten) (lo*R.size) (by rw [hlen]; exact q1) (by rw [hlen]; exact q2);have hrow':=hrow.mid hrows (lo:=lo) (by rw [List.length_replicate]; omega);rw [List.length_replicate,show lo+(hi-lo)=hi by omega] at hrow';rw [hv] at hv2;injection hv2 with e1 e2 e3;subst e1 e2 e3;have hA:(if c=lo then (some ⟨gb,off,none⟩:Option Addr) else (some (⟨gb,off,none⟩:Addr)).map (·.add (lo*R.size)))=some ⟨gb,off+lo*R.size,none⟩:=by
   rw [if_neg (by omega)]; simp [kC]
  rw [hA] at hv';subst hv';have hst:=run_storeCells_cells (P:=P) gb (off+lo*R.size) (List.replicate (hi-lo) zs).flatten 0 w (by simpa using hcell) (by simpa using hfree) (hrows.cell hsz);simp only [qC] at hst;have hzc:(Builtin.zeroCells z.cells (hi-lo)).toList=(List.replicate (hi-lo) zs).flatten:=by rw [xM,hzl]
  have h1:(execOp a.eval ⟨none,.call { callee:=.builtin .clear,args:=#[x],argTypes:=#[t] },ty,pos,af,g⟩).run P w = .ok (.value (.tuple #[])) (w.setCells gb (off+lo*R.size) (List.replicate (hi-lo) zs).flatten):=by
   obtain⟨m',hm'⟩:∃ m',hi-lo=m'+1:=⟨hi-lo-1,by omega⟩;rw [hm'] at hx' hzc hst ⊢;simp [execOp,resolve,invoke,builtin,Builtin.clear_,hx',run_underlying ht,hzr,hzc,hst]
  subst hv;have hkt:Kt (fun j=>(Value.slice (some ⟨gb,off,none⟩) xs.length c).ownBlock=some j) w (w.setCells gb (off+lo*R.size) (List.replicate (hi-lo) zs).flatten):=(Kt.setCells _ _ _ _).mono fun j h=>by rw [h]; rfl
  refine uY h1 (k (kT cl (lo*R.size) (List.replicate (hi-lo) zs).flatten) _ hkt ?_);exact (hS.fact (an R _ _) hrow').turn hi_ hkt (r':=.own (.slice (some ⟨gb,off,none⟩) xs.length c) e R.size (kT cl (lo*R.size) (List.replicate (hi-lo) zs).flatten)) ⟨hown',hsz⟩ (fun j hj=>.inl hj)
theorem bG.dn (f:bG) {T:Nat→Prop} {w:World} (h:f.p T w):f.p (dT T []) w:=f.keep h (aj _ _) fun k hk=>by
 rcases hk with hk | ⟨r,hr,_⟩
 ·exact .inl hk
 ·cases hr
end
section
variable {κ ν:Type} {P:Program} {W:World} {M T E:Nat→Prop} {n:Nat} {G G':List (Nat×Value)} {D D':List cc} {F F':List bG} {a:Act} {w w':World} {K:Act→World→Prop}
variable {kt et:TypeId} {RK:aR κ} {ak:Bool} {RV:aR ν} {av:Bool} {q:κ→κ→Bool} {b clock:Nat} {es:Array MapEntry} {xs:List (κ×ν)}
theorem IJ {t t2 ty:TypeId} {X Y:Operand} (hS:St W M T n G D F a w) (ht:DB P t=some (kt,et)) (hK:uN P kt RK ak q) (i:Nat) (hi:D[i]? = some (.obj b (.map es clock))) (j:Nat) (hj:F[j]? = some (nA RK ak RV av es xs))
  {c:ba} {key:κ} (hc:RK.rel (dT T D) w c key) (hX:ev G X=some (.map (some b))) (hY:ev G Y=some (bg ak c))
  (k:∀ es' ck' w',Kt (fun j=>j=b) w w'→St W M T n G (D.set i (.obj b (.map es' ck'))) (nA RK ak RV av es' (pu q key xs)::F) a w'→K a w'):po P ⟨none,.call { callee:=.builtin .delete,args:=#[X,Y],argTypes:=#[t,t2] },ty,pos,af,g⟩ a w K:=by
 have hr:w.heap[b]? = some (.map es clock):=hS.own _ (aH hi);have hm:=hS.mapOk j hj;obtain⟨hl,hkeys⟩:=sJ hm;have hf:=oQ hK hc w hl hkeys;have hch:=hK.check es.isEmpty _ _ w _ _ hc;have fin:∀ es' ck',(Builtin.delete_ #[t,t2] ty #[.map (some b),bg ak c]).run P w = .ok (.tuple #[]) { w with heap:=w.heap.setIfInBounds b (.map es' ck') }→bw RK ak RV av (dT T D) w es' (pu q key xs)→po P ⟨none,.call { callee:=.builtin .delete,args:=#[X,Y],argTypes:=#[t,t2] },ty,pos,af,g⟩ a w K:=fun es' ck' hrun hok=>by
  refine uY (w':={ w with heap:=w.heap.setIfInBounds b (.map es' ck') }) (v:=.tuple #[]) (by simp [execOp,resolve,invoke,builtin,hS.ev hX,hS.ev hY,hrun]) (k es' ck' _ ((n8 hr).mono fun j hj=>(bO hj).symm) ?_);exact (hS.fact (nA RK ak RV av es' _) hok).turn hi (n8 hr) (r':=.obj b (.map es' ck')) (pr hr).1 fun j hj=>.inl hj
 cases hp:qO q key xs with
 | none =>
  obtain⟨_,_,g3⟩:=oE hp;rw [hp] at hf;refine fin es clock ?_ (by rw [g3]; exact hm);simp [Builtin.delete_,run_underlying (kW ht),tx hr,hch,hf,wh,zJ _ hr]
 | some p =>
  obtain⟨x0,hx0,hq0,_,_,g3⟩:=oF hp;have hpi:p<es.size:=by rw [hm.1]; exact (bD.1 hx0).1
  have he0:es[p]? = some es[p]:=sB hpi;rw [hp] at hf;have hat:wh es.toList 0 (some p)=some (p,es[p].val):=by simp [wh,he0]
  rw [hat] at hf;refine fin (es.eraseIdxIfInBounds p) clock ?_ ⟨?_,fun z e x he hx=>?_⟩
  ·simp [Builtin.delete_,run_underlying (kW ht),tx hr,hch,hf,zJ _ hr]
  ·rw [g3];have h1:(es.eraseIdxIfInBounds p).size=es.size-1:=by simp [Array.eraseIdxIfInBounds,hpi]
   rw [h1,List.length_eraseIdx,if_pos (by rw [← hm.1]; exact hpi),hm.1]
  ·rw [g3,tQ] at hx;have he2:(es.eraseIdxIfInBounds p)[z]? = if z<p then es[z]? else es[z+1]?:=by
    simp only [Array.eraseIdxIfInBounds,hpi,dif_pos];rw [Array.getElem?_eraseIdx]
   rw [he2] at he;split at hx
   ·rename_i hz;rw [if_pos hz] at he;exact hm.2 z e x he hx
   ·rename_i hz;rw [if_neg hz] at he;exact hm.2 (z+1) e x he hx
end
end
section
open Go.RowKit
section
variable {P:Program} {W:World} {M T E:Nat→Prop} {n:Nat} {G G':List (Nat×Value)} {D D' D0 Dr rs:List cc} {F F':List bG} {a:Act} {w w':World} {K:Act→World→Prop}
theorem St.notD {r:cc} (h:St W M T n G D F a w) (i:Nat) (hi:D[i]? = some r) {k:Nat} (hk:r.dom k):¬ dT T (D.eraseIdx i) k:=by
 have hlt:=(bD.1 hi).1;have hD:=(bD.1 hi).2;rintro (hT | ⟨s,hs,hT⟩)
 ·exact (h.free _ (aH hi) k hk).1 hT
 ·obtain⟨z,hz⟩:=gZ.1 hs;rw [tQ] at hz;split at hz
  ·rename_i hzi;have hzl:=(bD.1 hz).1;have:=gw.1 h.apart z i hzl hlt hzi k (by rw [(bD.1 hz).2]; exact hT);rw [hD] at this; exact this hk
  ·rename_i hzi;have hzl:=(bD.1 hz).1;have:=gw.1 h.apart i (z+1) hlt hzl (by omega) k (by rw [hD]; exact hk);rw [(bD.1 hz).2] at this; exact this hT
end
end
section
open Go.RowKit
structure Mf (α ν β:Type) where
 R:aR α
 RN:aR ν
 RI:aR β
 et:TypeId
 get:α→List β
 put:List β→α→α
 nf:Value→α→ν
 size:RN.size=R.size
 pos:0<RI.size
 close:∀ {T:Nat→Prop} {w:World} {cs:ba} {v:Value} {x:α},RN.rel T w cs (nf v x)→aC RI T w v (get x)→R.rel T w cs x
 gp:∀ l x,get (put l x)=l
 np:∀ v l x,nf v (put l x)=nf v x
def J8 (e:TypeId) (sz:Nat):rL:=⟨.slice none 0 0,e,sz,[]⟩
section
variable {α ν β:Type} (N:Mf α ν β)
def Mf.no:rL:=J8 N.et N.RI.size
variable {N}
variable {P:Program} {W:World} {M T E:Nat→Prop} {n:Nat} {G G':List (Nat×Value)} {D D' D0 Dr rs:List cc} {F F':List bG} {a:Act} {w w':World} {K:Act→World→Prop}
end
end
section
open Go.RowKit
section
variable {P:Program} {W:World} {M T E:Nat→Prop} {n:Nat} {G G':List (Nat×Value)} {D D' D0 Dr rs:List cc} {F F':List bG} {a:Act} {w w':World} {K:Act→World→Prop}
end
end
end Go.Proofs.YtdcojaccpnabkaaGreatDoor
