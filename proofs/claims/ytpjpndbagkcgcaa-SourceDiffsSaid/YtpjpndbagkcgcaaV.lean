/- More words for memory: copy and clear on rows of elements of any size. -/
import Derived.Test.YtpjpndbagkcgcaaW
import Derived.Lib.SliceRun
import Derived.Lib.AppendZerosOnto
import Derived.Lib.Overlaps
import Derived.Laws.Externs
set_option linter.unusedVariables false
set_option linter.unusedSimpArgs false
namespace Go.Proofs.Ytpjpndbagkcgcaa
open Go.RowKit

theorem flat_take {α : Type} {enc : α → List Value} {size : Nat} (he : ∀ x, (enc x).length = size) (l : List α) (i : Nat) (hi : i ≤ l.length) : (l.take i).flatMap enc = (l.flatMap enc).take (i * size) := by
  have h : ((l.take i).flatMap enc).length = i * size := by rw [flat_length he, List.length_take, Nat.min_eq_left hi]
  have e : l.flatMap enc = (l.take i).flatMap enc ++ (l.drop i).flatMap enc := by rw [← List.flatMap_append, List.take_append_drop]
  rw [e, ← h]; exact List.take_left.symm
theorem flat_drop {α : Type} {enc : α → List Value} {size : Nat} (he : ∀ x, (enc x).length = size) (l : List α) (i : Nat) (hi : i ≤ l.length) : (l.drop i).flatMap enc = (l.flatMap enc).drop (i * size) := by
  have h : ((l.take i).flatMap enc).length = i * size := by rw [flat_length he, List.length_take, Nat.min_eq_left hi]
  have e : l.flatMap enc = (l.take i).flatMap enc ++ (l.drop i).flatMap enc := by rw [← List.flatMap_append, List.take_append_drop]
  rw [e, ← h]; exact List.drop_left.symm

/-- an element of an own row is written -/
theorem own_set {α : Type} {enc : α → List Value} {size : Nat} (he : ∀ x, (enc x).length = size) {w : World} {B : Nat} {e : TypeId} {l : List α} {g off cap : Nat} {cs : Array Value} (k : Nat) (s : α) (hk : k < l.length)
    (hB : B ≤ g) (hg : w.heap[g]? = some (.cells cs e (0, 0))) (hnc : l.length ≤ cap) (hc : cap ≤ maxLen) (hfit : off + cap * size ≤ cs.size) (hcs : ∀ j u, (l.flatMap enc)[j]? = some u → cs[off + j]? = some u) :
    Own (w.setCells g (off + k * size) (enc s)) B e size (.slice (some ⟨g, off, none⟩) l.length cap) ((l.set k s).flatMap enc) := by
  obtain ⟨c1, a1, a2, a3, a4⟩ := setCells_block g e (0, 0) (enc s) (off + k * size) w cs hg
  have hm : (k + 1) * size ≤ cap * size := Nat.mul_le_mul_right _ (by omega)
  have hm' : (k + 1) * size = k * size + size := by rw [Nat.add_mul, Nat.one_mul]
  refine .inr ⟨g, off, l.length, cap, c1, rfl, by rw [flat_length he, List.length_set], hB, a1, hnc, hc, by rw [a2]; exact hfit, fun j u hu => ?_⟩
  have hT := flat_take he l k (by omega)
  have hTl : ((l.take k).flatMap enc).length = k * size := by rw [flat_length he, List.length_take, Nat.min_eq_left (by omega)]
  have hD := flat_drop he l (k + 1) (by omega)
  rw [List.set_eq_take_append_cons_drop, if_pos hk, List.flatMap_append, List.flatMap_cons] at hu
  by_cases h1 : j < k * size
  · rw [List.getElem?_append_left (by rw [hTl]; exact h1), hT, List.getElem?_take, if_pos h1] at hu
    rw [a3 _ (.inl (by omega))]
    exact hcs j u hu
  · rw [List.getElem?_append_right (by rw [hTl]; omega), hTl] at hu
    by_cases h2 : j < k * size + size
    · rw [List.getElem?_append_left (by rw [he]; omega)] at hu
      have := a4 (by rw [he]; omega) _ u hu
      rwa [show off + k * size + (j - k * size) = off + j by omega] at this
    · rw [List.getElem?_append_right (by rw [he]; omega), he, hD, List.getElem?_drop] at hu
      rw [a3 _ (.inr (by rw [he]; omega))]
      exact hcs j u (by rw [← hu]; congr 1; omega)

section
variable {P : Program}
theorem run_copy_any (w : World) (t t' ty e : TypeId) (size bytes : Nat) (E : Elem P t e size bytes) (b o dLen dCap : Nat) (sb soff sLen sCap n : Nat) (cs : List Value)
    (hn : n = Nat.min sLen dLen) (hl : cs.length = n * size) (hsrc : ∀ j u, cs[j]? = some u → w.cell? ⟨sb, soff + j, none⟩ = some u)
    (hc : ∀ j, j < cs.length → (w.cell? ⟨b, o + j, none⟩).isSome = true) (hf : ∀ j, j < cs.length → w.frozen? ⟨b, o + j, none⟩ = false) (h1 : ∀ u ∈ cs, u.oneCell' = true) :
    (Builtin.copy_ #[t, t'] ty #[.slice (some ⟨b, o, none⟩) dLen dCap, .slice (some ⟨sb, soff, none⟩) sLen sCap]).run P w = .ok (goInt n) (w.setCells b o cs) := by
  obtain ⟨ht, ⟨i, z, hi, hz, hsize, hby, hzs⟩, hpos⟩ := E
  subst hsize hn
  have hfc := run_firstCells_some (P := P) w i.size (Nat.min sLen dLen) ⟨sb, soff, none⟩ sLen sCap cs hl (fun j u hu => by rw [Addr.add_lit]; exact hsrc j u hu)
  have hst := run_storeCells_cells (P := P) b o cs 0 w (by simpa using hc) (by simpa using hf) h1
  simp only [Nat.add_zero] at hst
  simp [Builtin.copy_, run_underlying ht, Builtin.lenOf, sizeOf, typeInfo, hi, hfc, hst]

theorem wp_copy_run (w : World) {o : Oper} {a : Act} {K : Act → World → Prop} {Q : Exit → Act → World → Prop} (d s : Operand) (t t' : TypeId)
    (ho : o.op = .call { callee := .builtin .copy, args := #[d, s], argTypes := #[t, t'] }) (v u : Value) (hd : a.eval d = v) (hs : a.eval s = u) {v' : Value} {w' : World}
    (hr : (Builtin.copy_ #[t, t'] o.type #[v, u]).run P w = .ok v' w') (h : K (a.put o.dst v') w') : o.wp P a w K Q := by
  unfold Oper.wp execOp
  simp only [ho, resolve, invoke, builtin, Sem.run_bind, Sem.run_pure, Result.andThen_ok, List.map_toArray, List.map_cons, List.map_nil, hd, hs, hr]
  exact h
theorem wpl_copy (w : World) {ops : Array Oper} {rest : List Oper} {o : Oper} {a : Act} {Q : Exit → Act → World → Prop} (hgd : o.guard = none) (d s : Operand) (t t' : TypeId)
    (ho : o.op = .call { callee := .builtin .copy, args := #[d, s], argTypes := #[t, t'] }) (v u : Value) (hd : a.eval d = v) (hs : a.eval s = u) {v' : Value} {w' : World}
    (hr : (Builtin.copy_ #[t, t'] o.type #[v, u]).run P w = .ok v' w') (h : wpList P ops Q rest (a.put o.dst v') w') : wpList P ops Q (o :: rest) a w :=
  wpList_plain hgd fun _ hK => wp_copy_run w d s t t' ho v u hd hs hr (hK _ _ h)
theorem step_copy {ops : Array Oper} {o : Oper} {a : Act} {w : World} {K : Act → World → Prop} {Q : Exit → Act → World → Prop} {E : Prop}
    (hg : o.guard = none) (d x : Operand) (dT sT : TypeId) (hop : o.op = Op.call { callee := Callee.builtin Builtin.copy, args := #[d, x], argTypes := #[dT, sT] })
    (v u : Value) (hd : a.eval d = v) (hx : a.eval x = u) {v' : Value} {w' : World} (hr : (Builtin.copy_ #[dT, sT] o.type #[v, u]).run P w = .ok v' w') (hK : K (a.put o.dst v') w') :
    if Region.wanted o (yielded ops a.tmps) = true then Oper.wp P o a w K Q else E := by
  rw [if_pos (by simp [Region.wanted, hg])]
  exact wp_copy_run w d x dT sT hop v u hd hx hr hK

/-- an append whose run is known -/
theorem wpl_append_run (w : World) {ops : Array Oper} {rest : List Oper} {o : Oper} {a : Act} {Q : Exit → Act → World → Prop} (hgd : o.guard = none) (d s : Operand) (t t' : TypeId)
    (ho : o.op = .call { callee := .builtin .append, args := #[d, s], argTypes := #[t, t'] }) (v u : Value) (hd : a.eval d = v) (hs : a.eval s = u) {v' : Value} {w' : World}
    (hr : (Builtin.append_ #[t, t'] o.type #[v, u]).run P w = .ok v' w') (h : wpList P ops Q rest (a.put o.dst v') w') : wpList P ops Q (o :: rest) a w :=
  wpList_plain hgd fun _ hK => by
    unfold Oper.wp execOp
    simp only [ho, resolve, invoke, builtin, Sem.run_bind, Sem.run_pure, Result.andThen_ok, List.map_toArray, List.map_cons, List.map_nil, hd, hs, hr]
    exact hK _ _ h
theorem step_append_run {ops : Array Oper} {o : Oper} {a : Act} {w : World} {K : Act → World → Prop} {Q : Exit → Act → World → Prop} {E : Prop}
    (hg : o.guard = none) (d x : Operand) (dT sT : TypeId) (hop : o.op = Op.call { callee := Callee.builtin Builtin.append, args := #[d, x], argTypes := #[dT, sT] })
    (v u : Value) (hd : a.eval d = v) (hx : a.eval x = u) {v' : Value} {w' : World} (hr : (Builtin.append_ #[dT, sT] o.type #[v, u]).run P w = .ok v' w') (hK : K (a.put o.dst v') w') :
    if Region.wanted o (yielded ops a.tmps) = true then Oper.wp P o a w K Q else E := by
  rw [if_pos (by simp [Region.wanted, hg])]
  unfold Oper.wp execOp
  simp only [hop, resolve, invoke, builtin, Sem.run_bind, Sem.run_pure, Result.andThen_ok, List.map_toArray, List.map_cons, List.map_nil, hd, hx, hr]
  exact hK

theorem run_clear_any (w : World) (t ty e : TypeId) (size bytes : Nat) (E : Elem P t e size bytes) (z : Value) (hz : ∀ w, (zeroValue e).run P w = .ok z w) (hzs : z.cells.size = size) (h1 : ∀ u ∈ z.cells.toList, u.oneCell' = true)
    (b o n c : Nat) (hn : 0 < n) (hc : ∀ j, j < n * size → (w.cell? ⟨b, o + j, none⟩).isSome = true) (hf : ∀ j, j < n * size → w.frozen? ⟨b, o + j, none⟩ = false) :
    (Builtin.zeroCells z.cells n).toList.length = n * size ∧ (Builtin.clear_ #[t] ty #[.slice (some ⟨b, o, none⟩) n c]).run P w = .ok (.tuple #[]) (w.setCells b o (Builtin.zeroCells z.cells n).toList) := by
  obtain ⟨ht, _, hpos⟩ := E
  have hl : (Builtin.zeroCells z.cells n).toList.length = n * size := by rw [Array.length_toList, size_zeroCells, hzs]
  refine ⟨hl, ?_⟩
  have hst := run_storeCells_cells (P := P) b o (Builtin.zeroCells z.cells n).toList 0 w (by rw [hl]; simpa using hc) (by rw [hl]; simpa using hf) (by
    intro u hu
    unfold Builtin.zeroCells at hu
    simp only [Array.toList_map, List.mem_map] at hu
    obtain ⟨i, _, rfl⟩ := hu
    have hlt : i % z.cells.size < z.cells.size := Nat.mod_lt _ (by omega)
    rw [getElem!_pos z.cells _ hlt]
    exact h1 _ (by simp))
  simp only [Nat.add_zero] at hst
  have hn0 : n ≠ 0 := by omega
  cases n with
  | zero => omega
  | succ n => simp [Builtin.clear_, run_underlying ht, hz, hst]
end

end Go.Proofs.Ytpjpndbagkcgcaa
