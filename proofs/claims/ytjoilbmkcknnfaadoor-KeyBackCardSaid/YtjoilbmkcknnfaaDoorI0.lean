/- Words for memory: copy; a block behind two writes. -/
import Derived.Test.YtjoilbmkcknnfaaDoorMB
import Derived.Lib.SliceRun
import Derived.Lib.AppendZerosOnto
import Derived.Lib.Overlaps
import Derived.Laws.Externs
set_option linter.unusedVariables false
set_option linter.unusedSimpArgs false
namespace Go.Proofs.YtjoilbmkcknnfaaDoor
open Go.RowKit

section
variable {P : Program}
theorem run_copy_any (w : World) (t t' ty e : TypeId) (size bytes : Nat) (E : Elem P t e size bytes) (b o dLen dCap : Nat) (sb soff sLen sCap n : Nat) (cs : List Value)
    (hn : n = Nat.min sLen dLen) (hl : cs.length = n * size) (hsrc : ∀ j u, cs[j]? = some u → w.cell? ⟨sb, soff + j, none⟩ = some u)
    (hc : ∀ j, j < cs.length → (w.cell? ⟨b, o + j, none⟩).isSome = true) (hf : ∀ j, j < cs.length → w.frozen? ⟨b, o + j, none⟩ = false) (h1 : ∀ u ∈ cs, u.oneCell' = true) :
    (Builtin.copy_ #[t, t'] ty #[.slice (some ⟨b, o, none⟩) dLen dCap, .slice (some ⟨sb, soff, none⟩) sLen sCap]).run P w = .ok (goInt n) (w.setCells b o cs) := by
  obtain ⟨ht, ⟨i, z, hi, hz, hsize, hby, hzs⟩, hpos⟩ := E
  subst hsize hn
  have hfc := run_firstCells_some (P := P) w i.size (Nat.min sLen dLen) ⟨sb, soff, none⟩ sLen sCap cs hl (fun j u hu => by rw [Addr.add_lit]; exact hsrc j u hu)
  have hst := run_storeCells_cells (P := P) b o cs 0 w (by simpa using hc) (by simpa using hf) h1
  simp only [Nat.add_zero] at hst
  simp [Builtin.copy_, run_underlying ht, Builtin.lenOf, sizeOf, typeInfo, hi, hfc, hst]

theorem wp_copy_run (w : World) {o : Oper} {a : Act} {K : Act → World → Prop} {Q : Exit → Act → World → Prop} (d s : Operand) (t t' : TypeId)
    (ho : o.op = .call { callee := .builtin .copy, args := #[d, s], argTypes := #[t, t'] }) (v u : Value) (hd : a.eval d = v) (hs : a.eval s = u) {v' : Value} {w' : World}
    (hr : (Builtin.copy_ #[t, t'] o.type #[v, u]).run P w = .ok v' w') (h : K (a.put o.dst v') w') : o.wp P a w K Q := by
  unfold Oper.wp execOp
  simp only [ho, resolve, invoke, builtin, Sem.run_bind, Sem.run_pure, Result.andThen_ok, List.map_toArray, List.map_cons, List.map_nil, hd, hs, hr]
  exact h
theorem wpl_copy (w : World) {ops : Array Oper} {rest : List Oper} {o : Oper} {a : Act} {Q : Exit → Act → World → Prop} (hgd : o.guard = none) (d s : Operand) (t t' : TypeId)
    (ho : o.op = .call { callee := .builtin .copy, args := #[d, s], argTypes := #[t, t'] }) (v u : Value) (hd : a.eval d = v) (hs : a.eval s = u) {v' : Value} {w' : World}
    (hr : (Builtin.copy_ #[t, t'] o.type #[v, u]).run P w = .ok v' w') (h : wpList P ops Q rest (a.put o.dst v') w') : wpList P ops Q (o :: rest) a w :=
  wpList_plain hgd fun _ hK => wp_copy_run w d s t t' ho v u hd hs hr (hK _ _ h)
theorem step_copy {ops : Array Oper} {o : Oper} {a : Act} {w : World} {K : Act → World → Prop} {Q : Exit → Act → World → Prop} {E : Prop}
    (hg : o.guard = none) (d x : Operand) (dT sT : TypeId) (hop : o.op = Op.call { callee := Callee.builtin Builtin.copy, args := #[d, x], argTypes := #[dT, sT] })
    (v u : Value) (hd : a.eval d = v) (hx : a.eval x = u) {v' : Value} {w' : World} (hr : (Builtin.copy_ #[dT, sT] o.type #[v, u]).run P w = .ok v' w') (hK : K (a.put o.dst v') w') :
    if Region.wanted o (yielded ops a.tmps) = true then Oper.wp P o a w K Q else E := by
  rw [if_pos (by simp [Region.wanted, hg])]
  exact wp_copy_run w d x dT sT hop v u hd hx hr hK

/-- an append whose run is known -/
theorem wpl_append_run (w : World) {ops : Array Oper} {rest : List Oper} {o : Oper} {a : Act} {Q : Exit → Act → World → Prop} (hgd : o.guard = none) (d s : Operand) (t t' : TypeId)
    (ho : o.op = .call { callee := .builtin .append, args := #[d, s], argTypes := #[t, t'] }) (v u : Value) (hd : a.eval d = v) (hs : a.eval s = u) {v' : Value} {w' : World}
    (hr : (Builtin.append_ #[t, t'] o.type #[v, u]).run P w = .ok v' w') (h : wpList P ops Q rest (a.put o.dst v') w') : wpList P ops Q (o :: rest) a w :=
  wpList_plain hgd fun _ hK => by
    unfold Oper.wp execOp
    simp only [ho, resolve, invoke, builtin, Sem.run_bind, Sem.run_pure, Result.andThen_ok, List.map_toArray, List.map_cons, List.map_nil, hd, hs, hr]
    exact hK _ _ h
theorem step_append_run {ops : Array Oper} {o : Oper} {a : Act} {w : World} {K : Act → World → Prop} {Q : Exit → Act → World → Prop} {E : Prop}
    (hg : o.guard = none) (d x : Operand) (dT sT : TypeId) (hop : o.op = Op.call { callee := Callee.builtin Builtin.append, args := #[d, x], argTypes := #[dT, sT] })
    (v u : Value) (hd : a.eval d = v) (hx : a.eval x = u) {v' : Value} {w' : World} (hr : (Builtin.append_ #[dT, sT] o.type #[v, u]).run P w = .ok v' w') (hK : K (a.put o.dst v') w') :
    if Region.wanted o (yielded ops a.tmps) = true then Oper.wp P o a w K Q else E := by
  rw [if_pos (by simp [Region.wanted, hg])]
  unfold Oper.wp execOp
  simp only [hop, resolve, invoke, builtin, Sem.run_bind, Sem.run_pure, Result.andThen_ok, List.map_toArray, List.map_cons, List.map_nil, hd, hx, hr]
  exact hK

end
/-- a block's content behind two writes -/
theorem two_writes {T X D : List Value} {cs c1 c2 : Array Value} {off : Nat}
    (h0 : ∀ j u, T[j]? = some u → cs[off + j]? = some u)
    (hd : ∀ j u, D[j]? = some u → c1[off + T.length + X.length + j]? = some u) (h1 : ∀ j, j < off + T.length → c1[j]? = cs[j]?)
    (hx : ∀ j u, X[j]? = some u → c2[off + T.length + j]? = some u) (h2 : ∀ j, (j < off + T.length ∨ off + T.length + X.length ≤ j) → c2[j]? = c1[j]?) :
    ∀ j u, (T ++ X ++ D)[j]? = some u → c2[off + j]? = some u := by
  intro j u hu
  by_cases hT : j < T.length
  · rw [List.append_assoc, List.getElem?_append_left hT] at hu
    rw [h2 _ (.inl (by omega)), h1 _ (by omega)]
    exact h0 j u hu
  · by_cases hX : j < T.length + X.length
    · rw [List.getElem?_append_left (by rw [List.length_append]; exact hX), List.getElem?_append_right (by omega)] at hu
      have := hx _ u hu
      rwa [show off + T.length + (j - T.length) = off + j by omega] at this
    · rw [List.getElem?_append_right (by rw [List.length_append]; omega), List.length_append] at hu
      have := hd _ u hu
      rw [show off + T.length + X.length + (j - (T.length + X.length)) = off + j by omega] at this
      rw [h2 _ (.inr (by omega))]
      exact this
theorem two_writes' {T X D : List Value} {cs c1 c2 : Array Value} {off : Nat}
    (h0 : ∀ j u, T[j]? = some u → cs[off + j]? = some u)
    (hx : ∀ j u, X[j]? = some u → c1[off + T.length + j]? = some u) (h1 : ∀ j, (j < off + T.length ∨ off + T.length + X.length ≤ j) → c1[j]? = cs[j]?)
    (hd : ∀ j u, D[j]? = some u → c2[off + T.length + X.length + j]? = some u) (h2 : ∀ j, j < off + T.length + X.length → c2[j]? = c1[j]?) :
    ∀ j u, (T ++ X ++ D)[j]? = some u → c2[off + j]? = some u := by
  intro j u hu
  by_cases hT : j < T.length
  · rw [List.append_assoc, List.getElem?_append_left hT] at hu
    rw [h2 _ (by omega), h1 _ (.inl (by omega))]
    exact h0 j u hu
  · by_cases hX : j < T.length + X.length
    · rw [List.getElem?_append_left (by rw [List.length_append]; exact hX), List.getElem?_append_right (by omega)] at hu
      have := hx _ u hu
      rw [show off + T.length + (j - T.length) = off + j by omega] at this
      rw [h2 _ (by omega)]
      exact this
    · rw [List.getElem?_append_right (by rw [List.length_append]; omega), List.length_append] at hu
      have := hd _ u hu
      rwa [show off + T.length + X.length + (j - (T.length + X.length)) = off + j by omega] at this


end Go.Proofs.YtjoilbmkcknnfaaDoor
