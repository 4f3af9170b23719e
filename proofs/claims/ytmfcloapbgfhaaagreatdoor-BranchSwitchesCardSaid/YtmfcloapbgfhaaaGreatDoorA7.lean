/- Texts of the proof, joined (7). -/
import Derived.Test.YtmfcloapbgfhaaaGreatDoorA6
import Derived.Test.YtmfcloapbgfhaaaGreatDoorRows
import GoSem.ClaimGoes
set_option linter.unusedVariables false
set_option linter.unusedSimpArgs false
set_option linter.unusedSectionVars false
namespace Go.Proofs.YtmfcloapbgfhaaaGreatDoor
section
open Go.ChangeShapes Go.WideShapes Go.ChangeAt Go.RowKit Go.Deep Go.Joins
def aN.unit:aN Unit where
  size:=0
  rel:=fun _ _ cs _=>cs=[]
  len:=by rintro _ _ _ _ rfl; rfl
  one:=by rintro _ _ _ _ rfl u hu; cases hu
  keep:=fun h _ _=>h
def By {α:Type} (P:Program) (fs:List Field) (off:Nat) (R:aN α) (Q:α→Prop):Prop :=
  (∀ f ∈ fs,off≤f.offset) ∧
  ∀ {H:Type} {enc:TypeId×Value→H} {w:World} {base n:Nat} {sp:Nat→Bool} {held:Bool} {cs:List Value} {xs:List (DataW H×List MemPlace)},cs.length=R.size→xs.length=fs.length →
    (∀ (i:Nat) (f:Field),fs[i]? = some f→DataW.trod enc P w base sp held n f.type ((cs.drop (f.offset - off)).take (P.cellsOf f.type))=xs[i]?) →
    (∀ m ∈ DataW.weightsEach P (fs.map (·.type)) (xs.map (·.1)),m≤reachBytes)→∃ x,R.rel No w cs x∧Q x
section
variable {P:Program} {t:TypeId}
theorem By.nil (off:Nat):By P [] off aN.unit (fun _=>True) :=
  ⟨fun f hf=>(by cases hf),fun {H enc w base n sp held cs xs} hl _ _ _=>⟨(),List.eq_nil_of_length_eq_zero hl,trivial⟩⟩
theorem By.cons {α β:Type} {R:aN α} {S:aN β} {Q:α→Prop} {Q2:β→Prop} {f:Field} {fs:List Field} {off:Nat} (ho:yK P f.type R Q) (hf:f.offset=off) (hc:P.cellsOf f.type=R.size) (h:By P fs (off + R.size) S Q2):By P (f :: fs) off (R.prod S) (fun x=>Q x.1∧Q2 x.2):=by
  refine⟨fun g hg=>?_,fun {H enc w base n sp held cs xs} hl hx ht hw=>?_⟩
  · rcases List.mem_cons.1 hg with rfl | hg
    · omega
    · have:=h.1 g hg; omega
  · cases xs with
    | nil=>simp at hx
    | cons y xs =>
      have hl:cs.length=R.size + S.size:=hl
      have h0:=ht 0 f rfl
      rw [hf,Nat.sub_self,List.drop_zero,hc] at h0
      obtain⟨x1,k1,k2⟩:=ho h0 (fun m hm=>hw m (by simp only [List.map_cons,DataW.weightsEach,List.mem_append]; exact .inl hm))
      obtain⟨x2,k3,k4⟩:=h.2 (H:=H) (enc:=enc) (w:=w) (base:=base) (n:=n) (sp:=sp) (held:=held) (cs:=cs.drop R.size) (xs:=xs) (by rw [List.length_drop]; omega) (by simpa using hx) (fun i g hg=>by
        have h1:=ht (i + 1) g (by simpa using hg)
        have h2:=h.1 g (List.mem_of_getElem? hg)
        rw [List.drop_drop,show R.size + (g.offset - (off + R.size))=g.offset - off by omega]
        simpa using h1) (fun m hm=>hw m (by simp only [List.map_cons,DataW.weightsEach,List.mem_append]; exact .inr hm))
      exact⟨(x1,x2),⟨cs.take R.size,cs.drop R.size,(List.take_append_drop _ _).symm,k1,k3⟩,k2,k4⟩
theorem yK.struct {α:Type} {R:aN α} {Q:α→Prop} {fs:Array Field} (ht:P.underlying t=some (.struct fs)) (hc:P.cellsOf t=R.size) (h:By P fs.toList 0 R Q):yK P t R Q:=fun {H enc w base n sp held cs d p} h0 hw=>by
  obtain⟨xs,m,_,hx,hl,hlen,hf⟩:=DataW.trod_struct ht h0
  simp only [Prod.mk.injEq] at hx
  obtain⟨rfl,rfl⟩:=hx
  refine h.2 (H:=H) (enc:=enc) (w:=w) (base:=base) (n:=m) (sp:=sp) (held:=held) (xs:=xs) (hl.trans hc) (by simpa using hlen) (fun i f hi=>?_) (fun k hk=>hw k ?_)
  · have:=hf i f (by simpa using hi)
    simpa using this
  · simp only [DataW.weights,ht]
    exact hk
end
end
section
open Go
theorem xi {P:Program} (h:P.funcs.any Func.goes=false) (f:FuncId):P.goes f=false:=by
  unfold Program.goes
  rw [h,Bool.and_false,Bool.or_false]
  rw [Bool.eq_false_iff]
  intro hc
  rw [List.any_eq_true] at hc
  obtain⟨g,_,hg⟩:=hc
  cases hf:P.funcs[g]? with
  | none=>rw [hf] at hg; cases hg
  | some fn =>
    rw [hf] at hg
    have:P.funcs.any Func.goes=true:=(Array.any_eq_true').2 ⟨fn,Array.mem_of_getElem? hf,by simpa using hg⟩
    rw [h] at this
    cases this
theorem y3 {P:Program} (h:P.funcs.any Func.goes=false) (st:Start) (func:String):P.goesAt st func=false:=by
  have hf:P.goesFrom func=false:=by
    unfold Program.goesFrom
    cases P.funcNamed func with
    | none=>rfl
    | some f=>exact xi h f
  have hi:P.inits.toList.any P.goes=false:=by
    rw [Bool.eq_false_iff]
    intro hc
    obtain⟨g,_,hg⟩:=List.any_eq_true.1 hc
    rw [xi h g] at hg
    cases hg
  unfold Program.goesAt
  rw [hf,Bool.false_or]
  cases st <;> first | rfl | exact hi
end
end Go.Proofs.YtmfcloapbgfhaaaGreatDoor
