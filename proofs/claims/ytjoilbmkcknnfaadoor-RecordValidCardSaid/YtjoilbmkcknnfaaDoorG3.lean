/- A frame for walks: operations that make or turn memory; calls; the end. -/
import Derived.Test.YtjoilbmkcknnfaaDoorG2
import Derived.Laws.CopyRow
import Derived.Laws.MakeOwn
import Derived.Great.BuildSlice
set_option linter.unusedVariables false
set_option linter.unusedSimpArgs false
namespace Go.Proofs.YtjoilbmkcknnfaaDoor
open Go.RowKit

def zeroI (P : Program) (t : TypeId) : Option (List Value) := match P.info? t with
  | some i => match i.zero with
    | some z => some z.cells.toList
    | none => none
  | none => none
def setL (cs : List Value) (o : Nat) (us : List Value) : List Value := cs.take o ++ us ++ cs.drop (o + us.length)
def fillL (pl : List (Nat × Nat)) (cs : List Value) : List (Nat × Value) → List (List Value) → Option (List Value)
  | [], [] => some cs
  | p :: r, u :: s => match pl[p.1]? with
    | some q => cond (Nat.beq u.length q.2 && Nat.ble (q.1 + q.2) cs.length) (fillL pl (setL cs q.1 u) r s) none
    | none => none
  | _, _ => none
/-- the cells of values -/
def Cs : List (Nat × Value) → List (List Value) → Prop
  | [], [] => True
  | p :: r, u :: s => p.2.cells.toList = u ∧ Cs r s
  | _, _ => False
theorem cells1 {v : Value} (h : v.oneCell' = true) : v.cells.toList = [v] := by cases v <;> first | rfl | cases h
def plI (P : Program) (t : TypeId) : Option (List (Nat × Nat)) := match P.underlying t with
  | some (.struct fs) => fs.toList.mapM fun f => (P.info? f.type).map fun i => (f.offset, i.size)
  | _ => none
def evp (G : List (Nat × Value)) : List (Nat × Operand) → Option (List (Nat × Value))
  | [] => some []
  | p :: r => match ev G p.2 with
    | some v => match evp G r with
      | some vs => some ((p.1, v) :: vs)
      | none => none
    | none => none
theorem set_fold : ∀ (us : List Value) (o k : Nat) (cs : Array Value), o + k + us.length ≤ cs.size → ((us.zipIdx k).foldl (fun cs x => cs.setIfInBounds (o + x.2) x.1) cs).toList = cs.toList.take (o + k) ++ us ++ cs.toList.drop (o + k + us.length)
  | [], o, k, cs, h => by simp
  | u :: r, o, k, cs, h => by
    simp only [List.length_cons] at h
    rw [List.zipIdx_cons, List.foldl_cons, set_fold r o (k + 1) _ (by simp; omega)]
    simp only [Array.toList_setIfInBounds, List.length_cons]
    apply List.ext_getElem?
    intro j
    have hl : cs.toList.length = cs.size := by simp
    simp only [List.getElem?_append, List.length_append, List.length_take, List.length_set, List.getElem?_take, List.getElem?_set, List.getElem?_drop, List.length_cons]
    rw [hl]
    rw [show min (o + (k + 1)) cs.size = o + k + 1 by omega, show min (o + k) cs.size = o + k by omega]
    by_cases h1 : j < o + k
    · simp [h1, show j < o + k + 1 + r.length by omega, show j < o + (k + 1) by omega, show j < o + k + 1 by omega, show j < o + k + (r.length + 1) by omega, show ¬ o + k = j by omega]
    · by_cases h2 : j = o + k
      · subst h2
        simp [show o + k < o + k + 1 + r.length by omega, show o + k < o + (k + 1) by omega, show o + k < cs.size by omega]
      · by_cases h3 : j < o + k + 1 + r.length
        · simp [h1, h3, show ¬ j < o + k + 1 by omega, show j < o + k + (r.length + 1) by omega]
          rw [show j - (o + k) = (j - (o + k + 1)) + 1 by omega, List.getElem?_cons_succ]
        · simp [h3, show ¬ j < o + k + 1 by omega, show ¬ j < o + k + (r.length + 1) by omega, show ¬ o + k = o + (k + 1) + r.length + (j - (o + k + 1 + r.length)) by omega]
          congr 1; omega
theorem fill_ok {place : Nat → Option (Nat × Nat)} {pl : List (Nat × Nat)} (hp : ∀ i q, pl[i]? = some q → place i = some q) : ∀ (parts : List (Nat × Value)) (us : List (List Value)) (cs ws : List Value), Cs parts us → fillL pl cs parts us = some ws → Instr.fill place cs.toArray parts = some ws.toArray
  | [], [], cs, ws, _, h => by simp only [fillL, Option.some.injEq] at h; subst h; rfl
  | [], _ :: _, _, _, h, _ => h.elim
  | _ :: _, [], _, _, h, _ => h.elim
  | (i, v) :: r, u :: s, cs, ws, hc0, h => by
    obtain ⟨hu, hc1⟩ := hc0
    simp only at hu
    subst hu
    simp only [fillL] at h
    cases hq : pl[i]? with
    | none => rw [hq] at h; cases h
    | some q =>
      obtain ⟨off, size⟩ := q
      rw [hq] at h
      simp only at h
      cases hc : (Nat.beq v.cells.toList.length size && Nat.ble (off + size) cs.length) with
      | false => rw [hc] at h; cases h
      | true =>
        rw [hc] at h
        simp only [cond_true] at h
        simp only [Bool.and_eq_true] at hc
        have h1 : v.cells.size = size := by have := Nat.eq_of_beq_eq_true hc.1; simpa using this
        have h2 : off + size ≤ cs.length := Nat.le_of_ble_eq_true hc.2
        have ih := fill_ok hp r s _ ws hc1 h
        have e : (v.cells.zipIdx.foldl (fun cs x => cs.setIfInBounds (off + x.2) x.1) cs.toArray) = (setL cs off v.cells.toList).toArray := by
          apply Array.toList_inj.1
          rw [← Array.foldl_toList, Array.toList_zipIdx, set_fold _ off 0 _ (by simp; omega)]
          simp [setL]
        have h3 : ¬ (v.cells.size ≠ size || decide (off + v.cells.size > cs.toArray.size)) = true := by simp [h1]; omega
        simp only [Instr.fill, hp i _ hq]
        simp only [ne_eq, decide_not, Bool.or_eq_true, Bool.not_eq_true', decide_eq_false_iff_not, decide_eq_true_eq] at h3 ⊢
        rw [if_neg h3]
        rw [← ih]
        congr 1

section
variable {P : Program} {W : World} {M T E : Nat → Prop} {n : Nat} {G G' : List (Nat × Value)} {D D' : List Res} {F F' : List Fact} {a : Act} {w w' : World} {K : Act → World → Prop}
theorem kval {o : Oper} {v : Value} {w' : World} (h : (execOp a.eval o).run P w = .ok (.value v) w') (hk : K (a.put o.dst v) w') : OpK P o a w K := fun K' Q hK => by
  unfold Oper.wp
  rw [h, Oper.upon_value]
  exact hK _ _ hk
theorem kskip {o : Oper} {w' : World} (h : (execOp a.eval o).run P w = .ok .skip w') (hk : K (a.put o.dst undef) w') : OpK P o a w K := fun K' Q hK => by
  unfold Oper.wp
  rw [h, Oper.upon_skip]
  exact hK _ _ hk
theorem zeroI_run {t : TypeId} {cs : List Value} (h : zeroI P t = some cs) (w : World) : ∃ z : Value, z.cells.toList = cs ∧ (zeroValue t).run P w = .ok z w := by
  unfold zeroI at h
  split at h
  · rename_i i hi
    split at h
    · rename_i z hz
      injection h with h
      exact ⟨z, h, by simp [zeroValue, typeInfo, hi, hz]⟩
    · cases h
  · cases h
/-- a new variable -/
theorem k_alloc {d : Nat} {t ty : TypeId} {pos : String} {af : Array Edge} {g : Option (Nat × Bool)} {cs : List Value} (hS : St W M T n G D F a w) (hz : zeroI P t = some cs) (hn : Nat.blt d n = true)
    (k : ∀ b, w.heap.size ≤ b → ∀ a w', Kt No w w' → St W M T n ((d, .pointer (some ⟨b, 0, none⟩)) :: G) (.box b cs t :: D) F a w' → K a w') : OpK P ⟨some d, .alloc t, ty, pos, af, g⟩ a w K := by
  obtain ⟨z, hz1, hz2⟩ := zeroI_run hz w
  have hr : (execOp a.eval ⟨some d, .alloc t, ty, pos, af, g⟩).run P w = .ok (.value (.pointer (some ⟨w.heap.size, 0, none⟩))) (w.alloc (.cells cs.toArray t)) := by
    subst hz1
    simp [execOp, Instr.alloc, hz2, newVar, newRow]
  exact kval hr (k w.heap.size (Nat.le_refl _) _ _ (Kt.alloc _ _) ((hS.alloc cs t).put hn _))
theorem k_box {d : Nat} {t ty : TypeId} {x : Operand} {pos : String} {af : Array Edge} {g : Option (Nat × Bool)} {v : Value} {cs : List Value} (hS : St W M T n G D F a w) (hx : ev G x = some v) (hv : v.cells.toList = cs) (hn : Nat.blt d n = true)
    (k : ∀ b, w.heap.size ≤ b → ∀ a w', Kt No w w' → St W M T n ((d, .pointer (some ⟨b, 0, none⟩)) :: G) (.box b cs t :: D) F a w' → K a w') : OpK P ⟨some d, .box t x, ty, pos, af, g⟩ a w K := by
  have hr : (execOp a.eval ⟨some d, .box t x, ty, pos, af, g⟩).run P w = .ok (.value (.pointer (some ⟨w.heap.size, 0, none⟩))) (w.alloc (.cells cs.toArray t)) := by
    subst hv
    simp [execOp, Instr.box, hS.ev hx, newVar, newRow]
  exact kval hr (k w.heap.size (Nat.le_refl _) _ _ (Kt.alloc _ _) ((hS.alloc cs t).put hn _))
theorem run_store_row {t : TypeId} {ag : Bool} {z : Nat} (ht : tyI P t = some (ag, z)) {b o : Nat} {cs : Array Value} {bt : TypeId} {v : Value} (hr : w.heap[b]? = some (.cells cs bt (0, 0))) (hz : v.cells.toList.length = z) (hl : o + z ≤ cs.size) (h1 : ∀ u ∈ v.cells.toList, u.oneCell' = true) :
    (Instr.storeAt t (.pointer (some ⟨b, o, none⟩)) v).run P w = .ok () (w.setRow b (cs.toList.take o ++ v.cells.toList ++ cs.toList.drop (o + z)).toArray) := by
  have h2 := run_storeCells_at (P := P) b o bt v.cells.toList 0 cs w hr (by omega) h1
  simp only [Nat.add_zero, hz] at h2
  have h3 : v.cells.size = z := by rw [← hz]; simp
  simp [Instr.storeAt, Instr.sureAddr, storeVar, run_size ht, h3, h2]
/-- a store into a variable of the call's own -/
theorem k_store {t ty : TypeId} {x y : Operand} {pos : String} {af : Array Edge} {g : Option (Nat × Bool)} {ag : Bool} {z b o : Nat} {cs us : List Value} {bt : TypeId} {v : Value} (hS : St W M T n G D F a w) (hx : ev G x = some (.pointer (some ⟨b, o, none⟩))) (hy : ev G y = some v) (hv : v.cells.toList = us) (ht : tyI P t = some (ag, z)) (i : Nat) (hi : D[i]? = some (.box b cs bt))
    (hz : us.length = z) (hl : Nat.ble (o + z) cs.length = true) (h1 : ∀ u ∈ us, u.oneCell' = true)
    (k : ∀ w', Kt (fun j => j = b) w w' → St W M T n G (D.set i (.box b (setL cs o us) bt)) F a w' → K a w') : OpK P ⟨none, .store t x y, ty, pos, af, g⟩ a w K := by
  have hr : w.heap[b]? = some (.cells cs.toArray bt (0, 0)) := hS.own _ (List.mem_of_getElem? hi)
  subst hv
  have hle := Nat.le_of_ble_eq_true hl
  have hst := run_store_row (P := P) ht hr hz (by simpa using hle) h1
  have hrow : (w.setRow b (cs.take o ++ v.cells.toList ++ cs.drop (o + z)).toArray).heap[b]? = some (.cells (cs.take o ++ v.cells.toList ++ cs.drop (o + z)).toArray bt (0, 0)) := setRow_heap w b cs.toArray _ bt _ hr
  have hk : Kt (fun j => Res.dom (.box b cs bt) = some j) w (w.setRow b (cs.take o ++ v.cells.toList ++ cs.drop (o + z)).toArray) := by
    refine ⟨rfl, rfl, rfl, by simp [World.setRow], fun j hj hn => ?_⟩
    have hne : b ≠ j := fun e => hn (by simp [Res.dom, e])
    simp [World.setRow, Array.getElem?_modify, hne]
  refine kskip (w' := w.setRow b (cs.take o ++ v.cells.toList ++ cs.drop (o + z)).toArray) (by simp [execOp, hS.ev hx, hS.ev hy, hst]) (k _ (hk.mono fun j hj => by simp only [Res.dom, Option.some.injEq] at hj; exact hj.symm) ?_)
  have := hS.turn hi hk (r' := .box b (setL cs o v.cells.toList) bt) (by rw [setL, hz]; exact hrow) (fun j hj => .inl hj)
  exact this

/-- a literal of a struct -/
theorem mapM_run {α β : Type} (f : α → Sem β) (g : α → Option β) (w : World) (hf : ∀ x y, g x = some y → (f x).run P w = .ok y w) : ∀ (l : List α) (r : List β), l.mapM g = some r → (l.mapM f).run P w = .ok r w
  | [], r, h => by simp only [List.mapM_nil, Option.pure_def, Option.some.injEq] at h; subst h; simp
  | x :: l, r, h => by
    simp only [List.mapM_cons, Option.bind_eq_bind, Option.pure_def] at h
    cases h1 : g x with
    | none => rw [h1] at h; cases h
    | some y =>
      cases h2 : l.mapM g with
      | none => rw [h1, h2] at h; cases h
      | some ys =>
        rw [h1, h2] at h
        simp only [Option.bind_some, Option.some.injEq] at h
        subst h
        simp [List.mapM_cons, hf x y h1, mapM_run f g w hf l ys h2]
theorem St.evp (h : St W M T n G D F a w) : ∀ {ps : List (Nat × Operand)} {vs : List (Nat × Value)}, evp G ps = some vs → ps.map (fun p => (p.1, a.eval p.2)) = vs
  | [], vs, hx => by simp only [Proofs.YtjoilbmkcknnfaaDoor.evp, Option.some.injEq] at hx; subst hx; rfl
  | (i, x) :: r, vs, hx => by
    simp only [Proofs.YtjoilbmkcknnfaaDoor.evp] at hx
    cases h1 : Proofs.YtjoilbmkcknnfaaDoor.ev G x with
    | none => rw [h1] at hx; cases hx
    | some v =>
      cases h2 : Proofs.YtjoilbmkcknnfaaDoor.evp G r with
      | none => rw [h1, h2] at hx; cases hx
      | some us =>
        rw [h1, h2] at hx
        simp only [Option.some.injEq] at hx
        subst hx
        rw [List.map_cons, h.ev h1, h.evp h2]
theorem y_build {d : Option Nat} {t ty : TypeId} {ps : List (Nat × Operand)} {pos : String} {af : Array Edge} {g : Option (Nat × Bool)} {pl : List (Nat × Nat)} {zs ws : List Value} {us : List (List Value)} {vs : List (Nat × Value)} (hS : St W M T n G D F a w) (hp : plI P t = some pl) (hz : zeroI P t = some zs) (hv : evp G ps = some vs) (hcs : Cs vs us) (hf : fillL pl zs vs us = some ws) :
    Ye P ⟨d, .build t ps.toArray, ty, pos, af, g⟩ a E w (.agg ws.toArray) :=
  Ye.of fun w => by
    unfold plI at hp
    split at hp
    · rename_i fs hu
      obtain ⟨z, hz1, hz2⟩ := zeroI_run hz w
      have h1 := mapM_run (P := P) (fun f => do pure (f.offset, ← sizeOf f.type)) (fun f => (P.info? f.type).map fun i => (f.offset, i.size)) w (fun x y hy => by
        cases hi : P.info? x.type with
        | none => rw [hi] at hy; cases hy
        | some i => rw [hi] at hy; simp only [Option.map_some, Option.some.injEq] at hy; subst hy; simp [sizeOf, typeInfo, hi]) fs.toList pl hp
      have h2 : (fs.mapM (m := Sem) fun f => do pure (f.offset, ← sizeOf f.type)).run P w = .ok pl.toArray w := by
        rw [Array.mapM_eq_mapM_toList, Sem.run_map, h1]; rfl
      have h3 := fill_ok (place := (pl.toArray[·]?)) (pl := pl) (fun i q hq => by simpa using hq) vs us zs ws hcs hf
      have hzc : z.cells = zs.toArray := by rw [← hz1]
      have h4 : (ps.toArray.map (fun p => (p.1, a.eval p.2))).toList = vs := by rw [← hS.evp hv]; simp
      have h5 : (Instr.build t (ps.toArray.map (fun p => (p.1, a.eval p.2)))).run P w = .ok (.agg ws.toArray) w := by
        unfold Instr.build
        simp only [Sem.run_bind, hz2, Result.andThen_ok, run_underlying hu, h2, hzc, h4, h3, Sem.run_pure]
      simp [execOp] at h5 ⊢
      rw [h5]; rfl
    · cases hp
end
end Go.Proofs.YtjoilbmkcknnfaaDoor
